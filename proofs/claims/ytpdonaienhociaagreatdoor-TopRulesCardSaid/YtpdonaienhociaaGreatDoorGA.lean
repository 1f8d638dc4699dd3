import Derived.OrdersHeld
import Derived.Below
import Derived.Deep.LoopGhost
import Derived.KernelRfl
import Derived.Laws.Cells
import Derived.Laws.Tables
import Derived.Laws.Entries
import Derived.Laws.Slices
import Derived.WideShapes
import Derived.WalkLawsBesides
import Derived.Great.BuildSlice
import Derived.Laws.StructEq
set_option linter.all false
namespace Go
abbrev Vj:Int→Value:=Value.int .i64
abbrev Pj (b:Nat):Value:=.pointer (some ⟨b,0,none⟩)
abbrev Bj:=ByteArray
theorem Om {p:Prop} (h:p:=by omega):p:=h
theorem Su {p q:Prop} (h:q) (e:q→p:=by intro h;simpa using h):p:=e h
theorem Sj {p:Prop} (h:p:=by simp only;omega):p:=h
theorem Kr {p:Prop} (h:p:=by kernel_rfl):p:=h
theorem Ku {p:World→Prop} (h:∀ w,p w:=by intro w;kernel_rfl):∀ w,p w:=h
theorem Cj {α:Type} {a b:α} (h:a=b:=by kernel_rfl):some a=some b:=congrArg some h
theorem Za:type_of% @List.take_succ_eq_append_getElem:=@List.take_succ_eq_append_getElem
theorem Zb:type_of% @List.take_of_length_le:=@List.take_of_length_le
theorem Zc:type_of% @List.length_filter_le:=@List.length_filter_le
theorem Zd:type_of% @List.getElem?_eq_getElem:=@List.getElem?_eq_getElem
theorem Ze:type_of% @List.mem_filter:=@List.mem_filter
theorem Zf:type_of% @List.length_map:=@List.length_map
theorem Zg:type_of% @Nat.le_refl:=@Nat.le_refl
theorem Zh:type_of% @List.mem_map:=@List.mem_map
theorem Zi:type_of% @List.getElem?_eq_some_iff:=@List.getElem?_eq_some_iff
theorem Zj:type_of% @List.mem_append:=@List.mem_append
theorem Zk:type_of% @List.mem_singleton:=@List.mem_singleton
theorem Zl:type_of% @Bool.and_eq_true:=@Bool.and_eq_true
theorem Zm:type_of% @List.map_cons:=@List.map_cons
theorem Zn:type_of% @List.length_take:=@List.length_take
theorem Zo:type_of% @List.length_append:=@List.length_append
theorem Zp:type_of% @List.map_append:=@List.map_append
theorem Zq:type_of% @List.filter_append:=@List.filter_append
theorem Zr:type_of% @List.mem_cons:=@List.mem_cons
theorem Zt:type_of% @List.foldl_append:=@List.foldl_append
theorem Zu:type_of% @Nat.zero_le:=@Nat.zero_le
theorem Zv:type_of% @Nat.le_trans:=@Nat.le_trans
theorem Zw:type_of% @List.append_nil:=@List.append_nil
theorem Zx:type_of% @List.getElem_mem:=@List.getElem_mem
theorem Zy:type_of% @List.map_map:=@List.map_map
theorem Zz:type_of% @List.getElem?_append_left:=@List.getElem?_append_left
theorem Z4:type_of% @List.pairwise_append:=@List.pairwise_append
theorem Z5:type_of% @List.getElem?_append_right:=@List.getElem?_append_right
theorem Z7:type_of% @List.pairwise_map:=@List.pairwise_map
theorem Z8:type_of% @List.length_cons:=@List.length_cons
theorem Z9:type_of% @List.pairwise_cons:=@List.pairwise_cons
theorem Zaa:type_of% @List.append_assoc:=@List.append_assoc
theorem Zab:type_of% @List.findIdx?_eq_some_iff_getElem:=@List.findIdx?_eq_some_iff_getElem
theorem Zac:type_of% @List.length_pos_iff:=@List.length_pos_iff
theorem Zad:type_of% @Bool.not_eq_true:=@Bool.not_eq_true
theorem Zae:type_of% @List.nodup_iff_pairwise_ne:=@List.nodup_iff_pairwise_ne
theorem Zaf:type_of% @List.all_eq_true:=@List.all_eq_true
theorem Zag:type_of% @Bool.false_eq_true:=@Bool.false_eq_true
theorem Zah:type_of% @List.take_append_drop:=@List.take_append_drop
theorem Zai:type_of% @Bool.not_eq_true':=@Bool.not_eq_true'
theorem Zaj:type_of% @Option.getD_some:=@Option.getD_some
theorem Zak:type_of% @List.drop_eq_getElem_cons:=@List.drop_eq_getElem_cons
theorem Zal:type_of% @Nat.lt_of_lt_of_le:=@Nat.lt_of_lt_of_le
theorem Zam:type_of% @List.length_nil:=@List.length_nil
theorem Zan:type_of% @List.nil_append:=@List.nil_append
theorem Zao:type_of% @List.length_eq_zero_iff:=@List.length_eq_zero_iff
theorem Zap:type_of% @List.foldl_cons:=@List.foldl_cons
theorem Zaq:type_of% @List.getElem?_map:=@List.getElem?_map
theorem Zar:type_of% @List.filter_cons:=@List.filter_cons
theorem Zas:type_of% @Int.mul_le_mul_of_nonneg_right:=@Int.mul_le_mul_of_nonneg_right
theorem Zat:type_of% @List.flatMap_cons:=@List.flatMap_cons
theorem Zau:type_of% @List.pairwise_iff_getElem:=@List.pairwise_iff_getElem
theorem Zav:type_of% @List.findIdx?_eq_none_iff:=@List.findIdx?_eq_none_iff
theorem Zaw:type_of% @List.filter_sublist:=@List.filter_sublist
theorem Zax:type_of% @List.mem_of_getElem?:=@List.mem_of_getElem?
theorem Zay:type_of% @List.cons_append:=@List.cons_append
theorem Zaz:type_of% @Nat.eq_of_beq_eq_true:=@Nat.eq_of_beq_eq_true
theorem Za0:type_of% @List.length_singleton:=@List.length_singleton
theorem Za1:type_of% @List.Perm.refl:=@List.Perm.refl
theorem Za2:type_of% @List.getElem_of_mem:=@List.getElem_of_mem
theorem Za3:type_of% @Nat.ne_of_beq_eq_false:=@Nat.ne_of_beq_eq_false
theorem Za4:type_of% @Int.toNat_natCast:=@Int.toNat_natCast
theorem Za5:type_of% @ByteArray.size_append:=@ByteArray.size_append
theorem Za6:type_of% @Int.tmod_eq_emod_of_nonneg:=@Int.tmod_eq_emod_of_nonneg
theorem Za7:type_of% @List.map_congr_left:=@List.map_congr_left
theorem Za8:type_of% @List.pairwise_mergeSort:=@List.pairwise_mergeSort
theorem Za9:type_of% @List.sum_cons:=@List.sum_cons
theorem Zba:type_of% @List.eq_nil_of_length_eq_zero:=@List.eq_nil_of_length_eq_zero
theorem Zbb:type_of% @List.mem_flatMap:=@List.mem_flatMap
theorem Zbc:type_of% @List.nodup_cons:=@List.nodup_cons
theorem Zbd:type_of% @List.sum_append:=@List.sum_append
theorem Zbe:type_of% @Option.some.inj:=@Option.some.inj
theorem Zbf:type_of% @List.size_toArray:=@List.size_toArray
theorem Zbg:type_of% @Nat.zero_add:=@Nat.zero_add
theorem Zbh:type_of% @Nat.mul_one:=@Nat.mul_one
theorem Zbi:type_of% @Bool.or_eq_true:=@Bool.or_eq_true
theorem Zbj:type_of% @List.eq_nil_or_concat:=@List.eq_nil_or_concat
theorem Zbk:type_of% @List.filter_cons_of_pos:=@List.filter_cons_of_pos
theorem Zbl:type_of% @List.filter_cons_of_neg:=@List.filter_cons_of_neg
theorem Zbm:type_of% @List.getD_eq_getElem?_getD:=@List.getD_eq_getElem?_getD
theorem Zbn:type_of% @List.mem_of_getLast?:=@List.mem_of_getLast?
theorem Zbo:type_of% @List.mem_of_mem_take:=@List.mem_of_mem_take
theorem Zbp:type_of% @Array.getElem?_eq_none:=@Array.getElem?_eq_none
theorem Zbq:type_of% @List.length_set:=@List.length_set
theorem Zbr:type_of% @List.flatMap_append:=@List.flatMap_append
theorem Zbs:type_of% @List.mergeSort_perm:=@List.mergeSort_perm
theorem Zbt:type_of% @Nat.le_of_ble_eq_true:=@Nat.le_of_ble_eq_true
theorem Zbu:type_of% @Option.some.injEq:=@Option.some.injEq
theorem Zbv:type_of% @Nat.succ_mul:=@Nat.succ_mul
theorem Zbw:type_of% @Int.mul_le_mul:=@Int.mul_le_mul
theorem Zbx:type_of% @Bool.eq_iff_iff:=@Bool.eq_iff_iff
theorem Zby:type_of% @List.getElem?_take:=@List.getElem?_take
theorem Zbz:type_of% @List.getElem?_drop:=@List.getElem?_drop
theorem Zb0:type_of% @Nat.lt_of_le_of_lt:=@Nat.lt_of_le_of_lt
theorem Zb1:type_of% @Nat.mul_le_mul_right:=@Nat.mul_le_mul_right
theorem Zb2:type_of% @List.drop_of_length_le:=@List.drop_of_length_le
theorem Zb3:type_of% @List.ext_getElem?:=@List.ext_getElem?
theorem Zb4:type_of% @List.mem_take_iff_getElem:=@List.mem_take_iff_getElem
theorem Zb5:type_of% @Nat.lt_or_ge:=@Nat.lt_or_ge
theorem Zb6:type_of% @List.set_append_right:=@List.set_append_right
theorem Zb7:type_of% @Array.getElem?_modify:=@Array.getElem?_modify
theorem Zb8:type_of% @List.map_nil:=@List.map_nil
theorem Zb9:type_of% @Bool.and_eq_false_iff:=@Bool.and_eq_false_iff
theorem Zca:type_of% @Option.isSome_iff_exists:=@Option.isSome_iff_exists
theorem Zcb:type_of% @List.any_eq_true:=@List.any_eq_true
theorem Zcc:type_of% @Array.replicate_succ:=@Array.replicate_succ
theorem Zcd:type_of% @Array.replicate_zero:=@Array.replicate_zero
theorem Zce:type_of% @List.takeWhile_append_of_pos:=@List.takeWhile_append_of_pos
theorem Zcf:type_of% @Array.size_modify:=@Array.size_modify
theorem Zcg:type_of% @Array.getD_eq_getD_getElem?:=@Array.getD_eq_getD_getElem?
theorem Zch:type_of% @Option.map_some:=@Option.map_some
theorem Zci:type_of% @List.append_toArray:=@List.append_toArray
theorem Zcj:type_of% @List.filter_eq_self:=@List.filter_eq_self
theorem Zck:type_of% @List.takeWhile_sublist:=@List.takeWhile_sublist
theorem Zcl:type_of% @List.exists_cons_of_ne_nil:=@List.exists_cons_of_ne_nil
theorem Zcm:type_of% @Int.fdiv_eq_ediv_of_nonneg:=@Int.fdiv_eq_ediv_of_nonneg
theorem Zcn:type_of% @Int.tdiv_eq_ediv_of_nonneg:=@Int.tdiv_eq_ediv_of_nonneg
theorem Zco:type_of% @Array.ext':=@Array.ext'
theorem Zcp:type_of% @List.take_length:=@List.take_length
theorem Zcq:type_of% @Int.ediv_le_self:=@Int.ediv_le_self
theorem Zcr:type_of% @Array.getElem?_toList:=@Array.getElem?_toList
theorem Zcs:type_of% @Bool.not_true:=@Bool.not_true
theorem Zct:type_of% @List.Perm.append_left:=@List.Perm.append_left
theorem Zcu:type_of% @List.getElem?_eq_none:=@List.getElem?_eq_none
theorem Zcv:type_of% @Int.mul_nonneg:=@Int.mul_nonneg
theorem Zcw:type_of% @List.getLast?_append:=@List.getLast?_append
theorem Zcx:type_of% @List.cons.injEq:=@List.cons.injEq
theorem Zcy:type_of% @List.nodup_append:=@List.nodup_append
theorem Zcz:type_of% @List.take_sublist:=@List.take_sublist
theorem Zc0:type_of% @List.filter_nil:=@List.filter_nil
theorem Zc1:type_of% @List.push_toArray:=@List.push_toArray
theorem Zc2:type_of% @Nat.add_zero:=@Nat.add_zero
theorem Zc3:type_of% @Bool.not_false:=@Bool.not_false
theorem Zc4:type_of% @Nat.add_comm:=@Nat.add_comm
theorem Zc5:type_of% @Int.ediv_nonneg:=@Int.ediv_nonneg
theorem Zc6:type_of% @List.range_succ:=@List.range_succ
theorem Zc7:type_of% @Bool.and_true:=@Bool.and_true
end Go
namespace Go.Se
open Go.RowKit
abbrev Env:=List (Nat×Value)
abbrev SP:=List (Nat×Bool)
abbrev Loc:=List (Nat×SP×Value)
def nth {α:Type}:List α->Nat->Option α
 | [],_=>none
 | x :: _,0=>some x
 | _ :: l,n+1=>nth l n
theorem Qa1 {α:Type}:∀ (l:List α) (n:Nat),nth l n=l[n]?
 | [],n=>by simp[nth]
 | x :: l,0=>by simp[nth]
 | x :: l,n+1=>by simp[nth,Qa1 l n]
def get:Env->Nat->Option Value
 | [],_=>none
 | (t,v) :: Γ,s=>bif Nat.beq t s then some v else get Γ s
def Qw7:Loc->Nat->Option (SP×Value)
 | [],_=>none
 | (t,q,v) :: Δ,s=>bif Nat.beq t s then some (q,v) else Qw7 Δ s
def look (Γ:Env) (Δ:Loc) (t:Nat):Option (SP×Value) :=
 match Qw7 Δ t with
 | some r=>some r
 | none=>match get Γ t with
   | some v=>some ([],v)
   | none=>none
def cnd (Γ:Env) (Δ:Loc):SP->Bool
 | []=>true
 | (t,b) :: p=>(match look Γ Δ t with | some (_,.bool c)=>c == b | _=>false)&&cnd Γ Δ p
def Und (Γ:Env) (Δ:Loc):SP->Prop->Prop
 | [],Φ=>Φ
 | (t,b) :: p,Φ=>match look Γ Δ t with
   | some (_,.bool c)=>c=b->Und Γ Δ p Φ
   | _=>True
def Hol (Γ:Env) (Δ:Loc):SP->Prop
 | []=>True
 | (t,b) :: p=>match look Γ Δ t with
   | some (_,.bool c)=>c=b/\Hol Γ Δ p
   | _=>False
theorem Qz3 (Γ:Env) (Δ:Loc) (Φ:Prop):∀ p:SP,Und Γ Δ p Φ↔(cnd Γ Δ p=true->Φ)
 | []=>by simp[Und,cnd]
 | (t,b) :: p=>by
   have ih:=Qz3 Γ Δ Φ p;simp only[Und,cnd];split
   . rename_i c _;rw[ih];simp only[Zl,beq_iff_eq];exact⟨fun h ⟨h1,h2⟩=>h h1 h2,fun h h1 h2=>h ⟨h1,h2⟩⟩
   . rename_i h;simp
theorem Qx3 (Γ:Env) (Δ:Loc):∀ p:SP,Hol Γ Δ p↔cnd Γ Δ p=true
 | []=>by simp[Hol,cnd]
 | (t,b) :: p=>by
   have ih:=Qx3 Γ Δ p;simp only[Hol,cnd];split
   . rw[ih];simp
   . simp
def Xgf:SP->SP->Bool
 | [],[]=>true
 | (t,b) :: p,(s,c) :: q=>bif Nat.beq t s then(bif (b == c) then Xgf p q else false) else false
 | _,_=>false
theorem Xae:∀ {p q:SP},Xgf p q=true->p=q
 | [],[],_=>rfl
 | [],_ :: _,h=>by simp[Xgf] at h
 | _ :: _,[],h=>by simp[Xgf] at h
 | (t,b) :: p,(s,c) :: q,h=>by
   simp only[Xgf] at h;cases h1:Nat.beq t s <;> simp only[h1,cond_true,cond_false,Zag] at h
   cases h2:(b == c) <;> simp only[h2,cond_true,cond_false,Zag] at h
   rw[Zaz h1,eq_of_beq h2,Xae h]
def suf (q:SP):SP->Bool
 | []=>match q with | []=>true | _=>false
 | x :: p=>bif Xgf q (x :: p) then true else suf q p
theorem Xan {Γ:Env} {Δ:Loc} {q:SP}:∀ {p:SP},suf q p=true->cnd Γ Δ p=true->cnd Γ Δ q=true
 | [],h,_=>by
   cases q with
   | nil=>rfl
   | cons x q=>simp[suf] at h
 | x :: p,h,hc=>by
   simp only[suf] at h;cases h1:Xgf q (x :: p) <;> simp only[h1,cond_true,cond_false] at h
   . obtain⟨t,b⟩:=x;simp only[cnd,Zl] at hc;exact Xan h hc.2
   . rw[Xae h1];exact hc
def evO (Γ:Env) (Δ:Loc) (p:SP):Operand->Option Value
 | .tmp t=>match look Γ Δ t with
   | some (q,v)=>bif suf q p then some v else none
   | none=>none
 | .const v=>some v
 | .global g=>some (.pointer (some ⟨g,0,none⟩))
 | .func f=>some (.func (.func f) #[] #[])
structure Ag (N:Nat) (a:Act) (Γ:Env) (Δ:Loc) (G:List Nat):Prop where
 defers:a.defers = []
 size:a.tmps.size=N
 env:∀ t v,get Γ t=some v->a.tmps[t]? = some v
 loc:∀ t q v,Qw7 Δ t=some (q,v)->a.tmps[t]? = some (if cnd Γ Δ q=true then v else undef)
 scope:∀ t q v,Qw7 Δ t=some (q,v)->∀ x∈q,x.1∈G
theorem Ag.look {N:Nat} {a:Act} {Γ:Env} {Δ:Loc} {G:List Nat} (h:Ag N a Γ Δ G) {t:Nat} {q:SP} {v:Value} (hl:Se.look Γ Δ t=some (q,v)) :
 a.tmps[t]? = some (if cnd Γ Δ q=true then v else undef):=by
 unfold Se.look at hl
 cases h1:Qw7 Δ t with
 | some r =>
   rw[h1] at hl;obtain rfl:r=(q,v):=by simpa using hl
   exact h.loc t q v h1
 | none =>
   rw[h1] at hl
   cases h2:get Γ t with
   | none=>rw[h2] at hl;simp at hl
   | some u =>
     rw[h2] at hl;obtain⟨rfl,rfl⟩ : []=q/\u=v:=by simpa using hl
     rw[h.env t u h2];simp[cnd]
theorem Ag.ev {N:Nat} {a:Act} {Γ:Env} {Δ:Loc} {G:List Nat} (h:Ag N a Γ Δ G) {p:SP} {x:Operand} {v:Value} (he:evO Γ Δ p x=some v) (hc:cnd Γ Δ p=true) :
 a.eval x=v:=by
 cases x with
 | tmp t =>
   simp only[evO] at he
   cases hl:Se.look Γ Δ t with
   | none=>rw[hl] at he;simp at he
   | some r =>
     obtain⟨q,u⟩:=r;rw[hl] at he;cases hs:suf q p <;> simp[hs] at he
     subst he;have:=h.look hl;rw[if_pos (Xan hs hc)] at this;simp[Act.eval,Zcg,this]
 | const u=>simpa [evO,Act.eval] using he
 | global g=>simpa [evO,Act.eval] using he
 | func f=>simpa [evO,Act.eval] using he
theorem Qmp {t s:Nat} {v:Value} {Γ:Env}:get ((t,v) :: Γ) s=if t=s then some v else get Γ s:=by
 simp only[get]
 by_cases h:t=s
 . subst h;simp
 . have:Nat.beq t s=false:=by rw[<- Zad];exact fun e=>h (Zaz e)
   simp[this,h]
theorem Qod {t s:Nat} {q:SP} {v:Value} {Δ:Loc}:Qw7 ((t,q,v) :: Δ) s=if t=s then some (q,v) else Qw7 Δ s:=by
 simp only[Qw7]
 by_cases h:t=s
 . subst h;simp
 . have:Nat.beq t s=false:=by rw[<- Zad];exact fun e=>h (Zaz e)
   simp[this,h]
theorem Qje {Γ Γ':Env} {Δ Δ':Loc}:∀ {p:SP},(∀ x∈p,look Γ' Δ' x.1=look Γ Δ x.1)->cnd Γ' Δ' p=cnd Γ Δ p
 | [],_=>rfl
 | (t,b) :: p,h=>by
   simp only[cnd];rw[h (t,b) (by simp),Qje (p:=p) fun x hx=>h x (by simp[hx])]
def Xh1 (d:Nat):List Nat->Bool
 | []=>false
 | t :: G=>bif Nat.beq t d then true else Xh1 d G
theorem Q08 {d:Nat}:∀ {G:List Nat},Xh1 d G=false->d∉G
 | [],_=>by simp
 | t :: G,h=>by
   simp only[Xh1] at h;cases h1:Nat.beq t d <;> simp only[h1,cond_true,cond_false] at h
   . have:t≠d:=Za3 h1;simp only[Zr,not_or];exact⟨fun e=>this e.symm,Q08 h⟩
   . cases h
def guards (G:List Nat):SP->List Nat
 | []=>G
 | (t,_) :: p=>t :: guards G p
theorem Qfx {G:List Nat}:∀ {p:SP} {s:Nat},s∈guards G p↔s∈G\/∃ x∈p,x.1=s
 | [],s=>by simp[guards]
 | (t,b) :: p,s=>by
   simp only[guards,Zr,Qfx (p:=p)];constructor
   . rintro (rfl | h | ⟨x,hx,e⟩)
     . exact .inr ⟨(s,b),by simp⟩
     . exact .inl h
     . exact .inr ⟨x,by simp[hx],e⟩
   . rintro (h | ⟨x,rfl | hx,e⟩)
     . exact .inr (.inl h)
     . exact .inl e.symm
     . exact .inr (.inr ⟨x,hx,e⟩)
def Xel (N:Nat) (p:SP) (dst:Option Nat) (v:Value) (Γ:Env) (Δ:Loc) (G:List Nat) (K:Env->Loc->List Nat->Prop):Prop :=
 match dst with
 | none=>K Γ Δ G
 | some d =>
   bif Nat.blt d N then
    bif Xh1 d (guards G p) then False else
    match p with
    | []=>match Qw7 Δ d with
      | none=>K ((d,v) :: Γ) Δ G
      | some _=>False
    | x :: q=>match get Γ d with
      | none=>K Γ ((d,x :: q,v) :: Δ) (guards G (x :: q))
      | some _=>False
   else False
theorem Qh0 {N:Nat} {p:SP} {dst:Option Nat} {v:Value} {Γ:Env} {Δ:Loc} {G:List Nat} {K:Env->Loc->List Nat->Prop}
 (h:Xel N p dst v Γ Δ G K) {a:Act} (ha:Ag N a Γ Δ G) :
 ∃ Γ' Δ' G',K Γ' Δ' G'/\Ag N (a.put dst (if cnd Γ Δ p=true then v else undef)) Γ' Δ' G':=by
 unfold Xel at h
 cases dst with
 | none=>exact⟨Γ,Δ,G,h,by simpa [Act.put] using ha⟩
 | some d =>
   simp only at h;cases hN:Nat.blt d N <;> simp only[hN,cond_true,cond_false] at h
   have hd:d<N:=Zbt hN;cases hm:Xh1 d (guards G p) <;> simp only[hm,cond_true,cond_false] at h
   have hng:=Q08 hm
   have hget:∀ (u:Value) (t:Nat),(a.tmps.setIfInBounds d u)[t]? = if d=t then some u else a.tmps[t]? := by
    intro u t;rw[Array.getElem?_setIfInBounds]
    by_cases e:d=t
    . subst e;rw[if_pos rfl,if_pos (by rw[ha.size];exact hd),if_pos rfl]
    . simp[e]
   cases p with
   | nil =>
     simp only at h
     cases hl:Qw7 Δ d with
     | some r=>rw[hl] at h;exact h.elim
     | none =>
       rw[hl] at h;have hng':d∉G:=by simpa [guards] using hng
       have hlook:∀ s,s≠d->look ((d,v) :: Γ) Δ s=look Γ Δ s:=(by intro s hs;unfold Se.look;rw[Qmp,if_neg (fun e=>hs e.symm)]);refine⟨_,_,_,h,ha.defers,by simp[Act.put,ha.size],?_,?_,ha.scope⟩
       . intro t u hu;rw[Qmp] at hu;simp only[Act.put,cnd,if_true,hget]
         by_cases e:d=t
         . rw[if_pos e] at hu ⊢;exact hu
         . rw[if_neg e] at hu ⊢;exact ha.env t u hu
       . intro t q u hu;have hne:d≠t:=by rintro rfl;rw[hl] at hu;cases hu
         simp only[Act.put,cnd,if_true,hget,if_neg hne];rw[Qje fun x hx=>hlook x.1 (fun e=>hng' (e ▸ ha.scope t q u hu x hx))];exact ha.loc t q u hu
   | cons x q =>
     simp only at h
     cases hl:get Γ d with
     | some r=>rw[hl] at h;exact h.elim
     | none =>
       rw[hl] at h;have hlook:∀ s,s≠d->look Γ ((d,x :: q,v) :: Δ) s=look Γ Δ s:=(by intro s hs;unfold Se.look;rw[Qod,if_neg (fun e=>hs e.symm)])
       have hcp:cnd Γ ((d,x :: q,v) :: Δ) (x :: q)=cnd Γ Δ (x :: q) :=
        Qje fun y hy=>hlook y.1 (fun e=>hng (Qfx.2 (.inr ⟨y,hy,e⟩)))
       refine⟨_,_,_,h,ha.defers,by simp[Act.put,ha.size],?_,?_,?_⟩
       . intro t u hu;have hne:d≠t:=by rintro rfl;rw[hl] at hu;cases hu
         simp only[Act.put,hget,if_neg hne];exact ha.env t u hu
       . intro t r u hu;rw[Qod] at hu;simp only[Act.put,hget]
         by_cases e:d=t
         . rw[if_pos e] at hu ⊢;obtain⟨rfl,rfl⟩:x :: q=r/\v=u:=by simpa using hu
           rw[hcp]
         . rw[if_neg e] at hu ⊢;rw[Qje fun y hy=>hlook y.1 (fun e'=>hng (Qfx.2 (.inl (e' ▸ ha.scope t r u hu y hy))))];exact ha.loc t r u hu
       . intro t r u hu y hy;rw[Qod] at hu
         by_cases e:d=t
         . rw[if_pos e] at hu;obtain⟨rfl,rfl⟩:x :: q=r/\v=u:=by simpa using hu
           exact Qfx.2 (.inr ⟨y,hy,rfl⟩)
         . rw[if_neg e] at hu;exact Qfx.2 (.inl (ha.scope t r u hu y hy))
inductive Ty where
 | int (k:IntKind)
 | bool
 | str
 | slice (e n:Nat)
 | strct (fs:List (Nat×Nat×Nat))
 | arr (len n:Nat)
 | map (k e:Nat)
 | other
structure TyE where
 sh:Ty
 size:Nat
 agg:Bool
 zero:Value
abbrev Tab:=List (Nat×TyE)
def Qif:Tab->Nat->Option TyE
 | [],_=>none
 | (t,e) :: T,s=>bif Nat.beq t s then some e else Qif T s
def Xi4 (P:Program) (t:TypeId):Bool:=match P.underlying t with | some (.struct _) | some (.array _ _)=>true | _=>false
def Xbk (P:Program) (t:TypeId):Nat:=match P.underlying t with | some (.struct _) | some (.array _ _)=>1 | some _=>0 | none=>2
def Qw8 (P:Program):TypeDesc->Ty
 | .int k => .int k
 | .bool => .bool
 | .string => .str
 | .slice e => .slice e (P.cellsOf e)
 | .struct fs => .strct (fs.toList.map fun f=>(f.offset,P.cellsOf f.type,Xbk P f.type))
 | .array n e => .arr n (P.cellsOf e)
 | .map k e => .map k e
 | _ => .other
def Xe (P:Program) (t:TypeId):Option TyE :=
 match P.info? t with
 | some i=>match P.underlying t with
   | some d=>match i.zero with
     | some z=>some ⟨Qw8 P d,i.size,Xi4 P t,z⟩
     | none=>none
   | none=>none
 | none=>none
def Qbe (P:Program):Tab->Prop
 | []=>True
 | (t,e) :: T=>Xe P t=some e/\Qbe P T
theorem Qbe.get {P:Program}:∀ {T:Tab},Qbe P T->∀ {t:Nat} {e:TyE},Qif T t=some e->Xe P t=some e
 | [],_,t,e,h=>by simp[Qif] at h
 | (s,f) :: T,hT,t,e,h=>by
   simp only[Qif] at h;cases hb:Nat.beq s t <;> simp only[hb,cond_true,cond_false] at h
   . exact Qbe.get hT.2 h
   . rw[<- Zaz hb,<- h];exact hT.1
section types
variable {P:Program} {t:TypeId} {e:TyE}
theorem Xm (h:Xe P t=some e):∃ i d,P.info? t=some i/\P.underlying t=some d/\i.zero=some e.zero/\Qw8 P d=e.sh/\i.size=e.size/\Xi4 P t=e.agg:=by
 unfold Xe at h;split at h
 . rename_i i hi;split at h
   . rename_i d hd;split at h
     . rename_i z hz;simp only[Zbu] at h;subst h;exact⟨i,d,hi,hd,hz,rfl,rfl,rfl⟩
     . cases h
   . cases h
 . cases h
theorem Qm2 (h:Xe P t=some e) (w:World):(isAgg t).run P w = .ok e.agg w:=by
 obtain⟨i,d,_,hd,_,_,_,ha⟩:=Xm h;rw[<- ha];unfold isAgg Xi4;simp only[Sem.run_bind,run_underlying hd,Result.andThen_ok,hd];cases d <;> rfl
theorem Qpe (h:Xe P t=some e) (w:World):∃ i,P.info? t=some i/\(typeInfo t).run P w = .ok i w/\i.size=e.size/\i.zero=some e.zero:=by
 obtain⟨i,d,hi,_,hz,_,hs,_⟩:=Xm h;exact⟨i,hi,by simp[typeInfo,hi],hs,hz⟩
theorem Qkf (h:Xe P t=some e) (w:World):(sizeOf t).run P w = .ok e.size w:=by
 obtain⟨i,_,hr,hs,_⟩:=Qpe h w;simp[sizeOf,hr,hs]
theorem Qlb (h:Xe P t=some e) (w:World):(zeroValue t).run P w = .ok e.zero w:=by
 obtain⟨i,_,hr,_,hz⟩:=Qpe h w;simp[zeroValue,hr,hz]
theorem Qdh {n:Nat} (h:P.cellsOf t=n) (hn:n≠0) (w:World):(sizeOf t).run P w = .ok n w:=by
 unfold Program.cellsOf at h
 cases hi:P.info? t with
 | none=>rw[hi] at h;simp at h;omega
 | some i=>rw[hi] at h;simp at h;simp[sizeOf,typeInfo,hi,h]
theorem Q18 (h:Xbk P t=0) (w:World):(isAgg t).run P w = .ok false w:=by
 unfold Xbk at h;split at h <;> simp at h
 rename_i d hn1 hn2 hd;unfold isAgg;simp only[Sem.run_bind,run_underlying hd,Result.andThen_ok];cases d <;> first | rfl | exact absurd hd (hn1 _) | exact absurd hd (hn2 _ _)
theorem Q19 (h:Xbk P t=1) (w:World):(isAgg t).run P w = .ok true w:=by
 unfold Xbk at h;split at h <;> simp at h
 . rename_i hd;unfold isAgg;simp only[Sem.run_bind,run_underlying hd,Result.andThen_ok];rfl
 . rename_i hd;unfold isAgg;simp only[Sem.run_bind,run_underlying hd,Result.andThen_ok];rfl
end types
def Xp (w:World) (a:Addr) (cs:List Value):Prop:=∀ j v,cs[j]? = some v->w.cell? (a.add j)=some v
def Ext (w w':World):Prop:=Below w.heap.size w w'
theorem Ext.refl (w:World):Ext w w:=Below.refl _ _
theorem Ext.trans {a b c:World} (h:Ext a b) (k:Ext b c):Ext a c:=Below.trans h (Below.mono k h.size)
theorem Ext.drew {a w:World} (h:Ext a w):Ext a w.drew:=⟨h.os,h.tape,h.output,h.size,h.block⟩
theorem Ext.cell {w w':World} (h:Ext w w') {p:Addr} {v:Value} (hc:w.cell? p=some v):w'.cell? p=some v:=by
 have hb:p.block<w.heap.size:=by
  rcases Zb5 p.block w.heap.size with hlt | hge
  . exact hlt
  . unfold World.cell? at hc;rw[Zbp hge] at hc;cases hc
 rw[Below.cell h hb];exact hc
theorem Ext.cells {w w':World} (h:Ext w w') {p:Addr} {cs:List Value} (hc:Xp w p cs):Xp w' p cs :=
 fun j v hj=>h.cell (hc j v hj)
structure Mod (S:Nat->Prop) (w w':World):Prop where
 os:w'.os=w.os
 tape:w'.tape=w.tape
 output:w'.output=w.output
 size:w.heap.size<=w'.heap.size
 block:∀ k,k<w.heap.size->¬ S k->w'.heap[k]? = w.heap[k]?
theorem Mod.refl (S:Nat->Prop) (w:World):Mod S w w:=⟨rfl,rfl,rfl,Zg _,fun _ _ _=>rfl⟩
theorem Mod.trans {S:Nat->Prop} {a b c:World} (h:Mod S a b) (k:Mod S b c):Mod S a c :=
 ⟨k.os.trans h.os,k.tape.trans h.tape,k.output.trans h.output,Zv h.size k.size,
  fun i hi hs=>(k.block i (Zal hi h.size) hs).trans (h.block i hi hs)⟩
theorem Mod.of_ext {S:Nat->Prop} {a b:World} (h:Ext a b):Mod S a b:=⟨h.os,h.tape,h.output,h.size,fun i hi _=>h.block i hi⟩
theorem Mod.ext {a b:World} {S:Nat->Prop} (h:Mod S a b) (hS:∀ k,k<a.heap.size->¬ S k):Ext a b:=⟨h.os,h.tape,h.output,h.size,fun i hi=>h.block i hi (hS i hi)⟩
theorem Mod.mono {a b:World} {S S':Nat->Prop} (h:Mod S a b) (hS:∀ k,k<a.heap.size->S k->S' k):Mod S' a b :=
 ⟨h.os,h.tape,h.output,h.size,fun i hi hn=>h.block i hi (fun hs=>hn (hS i hi hs))⟩
inductive Cl where
 | same
 | ext
 | mods (S:Nat->Prop)
 | gen (R:World->World->Prop) (h:(∀ w,R w w)/\∀ a b c,R a b->R b c->R a c)
def Cl.rel:Cl->World->World->Prop
 | .same=>fun w w'=>w'=w
 | .ext=>Ext
 | .mods S=>Mod S
 | .gen R _=>R
theorem Cl.refl:∀ (c:Cl) (w:World),c.rel w w
 | .same,_=>rfl
 | .ext,w=>Ext.refl w
 | .mods S,w=>Mod.refl S w
 | .gen _ h,w=>h.1 w
theorem Cl.trans:∀ (c:Cl) {a b d:World},c.rel a b->c.rel b d->c.rel a d
 | .same,_,_,_,h,k=>k.trans h
 | .ext,_,_,_,h,k=>Ext.trans h k
 | .mods _,_,_,_,h,k=>Mod.trans h k
 | .gen _ hh,_,_,_,h,k=>hh.2 _ _ _ h k
def Rd1 (cl:Cl) (w:World) (a:Addr) (v:Value):Prop :=
 match cl with
 | .same | .ext=>w.cell? a=some v
 | .mods S=>w.cell? a=some v/\¬ S a.block
 | .gen R _=>∀ w',R w w'->w'.cell? a=some v
def RdN (cl:Cl) (w:World) (a:Addr) (cs:List Value):Prop :=
 match cl with
 | .same | .ext=>Xp w a cs
 | .mods S=>Xp w a cs/\¬ S a.block
 | .gen R _=>∀ w',R w w'->Xp w' a cs
def RdS (P:Program) (cl:Cl) (w:World) (s:Sem Value) (v:Value):Prop:=∀ w',cl.rel w w'->s.run P w' = .ok v w'
theorem cell_lt {w:World} {a:Addr} {v:Value} (h:w.cell? a=some v):a.block<w.heap.size:=by
 rcases Zb5 a.block w.heap.size with hlt | hge
 . exact hlt
 . unfold World.cell? at h;rw[Zbp hge] at h;cases h
theorem add_block (a:Addr) (n:Nat):(a.add n).block=a.block:=by unfold Addr.add;split <;> rfl
theorem Mod.cell {S:Nat->Prop} {w w':World} (h:Mod S w w') {p:Addr} {v:Value} (hc:w.cell? p=some v) (hs:¬ S p.block):w'.cell? p=some v:=by
 rw[World.cell?_of_block (w:=w) (h.block p.block (cell_lt hc) hs)];exact hc
theorem Rd1.run {cl:Cl} {w:World} {a:Addr} {v:Value} (h:Rd1 cl w a v) {w':World} (hw:cl.rel w w'):w'.cell? a=some v:=by
 cases cl with
 | same=>cases hw;exact h
 | ext=>exact Ext.cell hw h
 | mods S=>exact Mod.cell hw h.1 h.2
 | gen R hh=>exact h w' hw
theorem RdN.run {cl:Cl} {w:World} {a:Addr} {cs:List Value} (h:RdN cl w a cs) {w':World} (hw:cl.rel w w'):Xp w' a cs:=by
 cases cl with
 | same=>cases hw;exact h
 | ext=>exact Ext.cells hw h
 | mods S=>exact fun j v hj=>Mod.cell hw (h.1 j v hj) (by rw[add_block];exact h.2)
 | gen R hh=>exact h w' hw
def Qg:Value->List Value
 | .agg cs=>cs.toList
 | v => [v]
theorem Qan (v:Value):v.cells.toList=Qg v:=by cases v <;> rfl
def Xjc:List Value->Nat->Value->(List Value->Prop)->Prop
 | [],_,_,_=>False
 | _ :: l,0,v,K=>K (v :: l)
 | x :: l,n+1,v,K=>Xjc l n v fun l'=>K (x :: l')
theorem Q1o:∀ {l:List Value} {n:Nat} {v:Value} {K:List Value->Prop},Xjc l n v K->n<l.length/\K (l.set n v)
 | [],_,_,_,h=>h.elim
 | _ :: l,0,v,K,h=>⟨by simp,h⟩
 | x :: l,n+1,v,K,h=>by
   obtain⟨h1,h2⟩:=Q1o (l:=l) (n:=n) (v:=v) h;exact⟨by simp;omega,h2⟩
def Xgd:List Value->Nat->List Value->(List Value->Prop)->Prop
 | l,_,[],K=>K l
 | l,n,v :: vs,K=>Xjc l n v fun l'=>Xgd l' (n+1) vs K
def Qy2:List Value->Nat->List Value->List Value
 | l,_,[]=>l
 | l,n,v :: vs=>Qy2 (l.set n v) (n+1) vs
theorem Qv8:∀ {vs l:List Value} {n:Nat} {K:List Value->Prop},Xgd l n vs K->(vs = []\/n+vs.length<=l.length)/\K (Qy2 l n vs)
 | [],_,_,_,h=>⟨.inl rfl,h⟩
 | v :: vs,l,n,K,h=>by
   obtain⟨h1,h2⟩:=Q1o h;obtain⟨h3,h4⟩:=Qv8 h2;refine⟨.inr ?_,h4⟩;rcases h3 with rfl | h3
   . simp;omega
   . simp at h3 ⊢;omega
theorem Qim:∀ (vs l:List Value) (off k:Nat),
 (vs.zipIdx k).foldl (fun(cs:Array Value) (x:Value×Nat)=>cs.setIfInBounds (off+x.2) x.1) l.toArray=(Qy2 l (off+k) vs).toArray
 | [],_,_,_=>rfl
 | v :: vs,l,off,k=>by
   simp only[List.zipIdx_cons,Zap,Qy2];rw[List.setIfInBounds_toArray,Qim vs _ off (k+1)];rfl
def Xe6 (n:Nat):Nat->Nat->List (Nat×Nat×Nat)
 | 0,_ => []
 | k+1,off=>(off,n,0) :: Xe6 n k (off+n)
theorem Qsx {n:Nat}:∀ {len off i o s k:Nat},nth (Xe6 n len off) i=some (o,s,k)->o=off+i*n/\s=n
 | 0,off,i,o,s,k,h=>by rw[Qa1] at h;simp[Xe6] at h
 | len+1,off,0,o,s,k,h=>by
   rw[Qa1] at h;simp[Xe6] at h;exact⟨by omega,by omega⟩
 | len+1,off,i+1,o,s,k,h=>by
   rw[Qa1] at h;simp only[Xe6,List.getElem?_cons_succ] at h;rw[<- Qa1] at h;obtain⟨h1,h2⟩:=Qsx h;exact⟨by rw[h1,Nat.add_mul];omega,h2⟩
def Qxz (fs:List (Nat×Nat×Nat)):List Value->List (Nat×Value)->(List Value->Prop)->Prop
 | cells,[],K=>K cells
 | cells,(i,v) :: rest,K=>match nth fs i with
   | some (off,size,_)=>bif Nat.beq (Qg v).length size then Xgd cells off (Qg v) fun cells'=>Qxz fs cells' rest K else False
   | none=>False
theorem Qil {fs:List (Nat×Nat×Nat)} {place:Nat->Option (Nat×Nat)} (hp:∀ i off size k,nth fs i=some (off,size,k)->place i=some (off,size)) (hs:∀ i off size k,nth fs i=some (off,size,k)->size≠0) :
 ∀ {parts:List (Nat×Value)} {cells:List Value} {K:List Value->Prop},Qxz fs cells parts K->∃ r,Instr.fill place cells.toArray parts=some r.toArray/\K r
 | [],cells,K,h=>⟨cells,rfl,h⟩
 | (i,v) :: rest,cells,K,h=>by
   simp only[Qxz] at h
   cases hn:nth fs i with
   | none=>rw[hn] at h;exact h.elim
   | some x =>
     obtain⟨off,size,k⟩:=x;rw[hn] at h;simp only at h;cases hb:Nat.beq (Qg v).length size <;> simp only[hb,cond_true,cond_false] at h
     have hlen:=Zaz hb;obtain⟨h1,h2⟩:=Qv8 h;obtain⟨r,hr,hk⟩:=Qil hp hs h2;refine⟨r,?_,hk⟩;have hcs:v.cells.size=size:=by rw[<- hlen,<- Qan];simp
     have hle:off+size<=cells.length:=by
      rcases h1 with h1 | h1
      . rw[h1] at hlen;exact absurd hlen.symm (hs i off size k hn)
      . rw[hlen] at h1;exact h1
     simp only[Instr.fill,hp i off size k hn];rw[if_neg (by simp[hcs];omega)];have:v.cells=(Qg v).toArray:=by rw[<- Qan]
     rw[this,<- Array.foldl_toList];simp only[Array.toList_zipIdx];rw[Qim (Qg v) cells off 0];exact hr
def evL (ev:Operand->Option Value):List Operand->Option (List Value)
 | []=>some []
 | x :: l=>match ev x with
   | some v=>match evL ev l with
     | some vs=>some (v :: vs)
     | none=>none
   | none=>none
def evP (ev:Operand->Option Value):List (Nat×Operand)->Option (List (Nat×Value))
 | []=>some []
 | (i,x) :: l=>match ev x with
   | some v=>match evP ev l with
     | some vs=>some ((i,v) :: vs)
     | none=>none
   | none=>none
def Qm4 (P:Program) (t:TypeId) (ox oy:Operand) (x y:Value) (b:Bool):Prop :=
 ∀ w,(do eqGuard .eql t ox oy x y;binOp .eql t x y).run P w = .ok (.bool b) w/\(do eqGuard .neq t ox oy x y;binOp .neq t x y).run P w = .ok (.bool !b) w
def EqAt (P:Program) (cl:Cl) (w:World) (t:TypeId) (ox oy:Operand) (x y:Value) (b:Bool):Prop :=
 ∀ w',cl.rel w w'->(do eqGuard .eql t ox oy x y;binOp .eql t x y).run P w' = .ok (.bool b) w'
def Q7u (op:BinOp) (k:IntKind) (a b:Int) (und:Prop->Prop) (K:Value->Prop):Prop :=
 match op with
 | .add=>∃ z,und (z=k.wrap (a+b))/\K (.int k z)
 | .sub=>∃ z,und (z=k.wrap (a-b))/\K (.int k z)
 | .mul=>∃ z,und (z=k.wrap (a*b))/\K (.int k z)
 | .quo=>∃ z,und (b≠0/\z=k.wrap (a.tdiv b))/\K (.int k z)
 | .rem=>∃ z,und (b≠0/\z=a.tmod b)/\K (.int k z)
 | .and=>∃ z,und (z=k.wrap (BitVec.ofInt k.bits a &&& BitVec.ofInt k.bits b).toNat)/\K (.int k z)
 | .or=>∃ z,und (z=k.wrap (BitVec.ofInt k.bits a ||| BitVec.ofInt k.bits b).toNat)/\K (.int k z)
 | .xor=>∃ z,und (z=k.wrap (BitVec.ofInt k.bits a ^^^ BitVec.ofInt k.bits b).toNat)/\K (.int k z)
 | .eql=>K (.bool (decide (a=b)))
 | .neq=>K (.bool (!decide (a=b)))
 | .lss=>K (.bool (decide (a<b)))
 | .leq=>K (.bool (decide (a<=b)))
 | .gtr=>K (.bool (decide (b<a)))
 | .geq=>K (.bool (decide (b<=a)))
 | .shl=>∃ z,und (0<=b/\z=k.wrap (a*2 ^ (min b.toNat k.bits)))/\K (.int k z)
 | .shr=>∃ z,und (0<=b/\z=a.fdiv (2 ^ (min b.toNat k.bits)))/\K (.int k z)
 | .andNot=>False
def Xgl (op:BinOp) (a b:ByteArray) (und:Prop->Prop) (K:Value->Prop):Prop :=
 match op with
 | .add=>und (a.size+b.size<=9223372036854775807)/\K (.string (a++b))
 | .eql=>K (.bool (decide (a=b)))
 | .neq=>K (.bool (!decide (a=b)))
 | .lss=>K (.bool (Op.bytesLess a.toList b.toList))
 | .gtr=>K (.bool (!(Op.bytesLess a.toList b.toList||decide (a=b))))
 | .leq=>K (.bool (Op.bytesLess a.toList b.toList||decide (a=b)))
 | .geq=>K (.bool (!Op.bytesLess a.toList b.toList))
 | _=>False
def Xhb (ev:SP->Operand->Option Value) (x:Option Operand) (d:Nat):Option Int :=
 match x with
 | none=>some (d:Int)
 | some y=>match ev [] y with
   | some (.int _ n)=>some n
   | _=>none
def Xha (P:Program) (T:Tab) (cl:Cl) (ev:SP->Operand->Option Value) (und:Prop->Prop) (o:Op) (w:World) (K:Value->Prop):Prop :=
 match o with
 | .move x | .assign x=>match ev [] x with
   | some v=>K v
   | none=>False
 | .pick (.tmp c) x y=>match ev [] (.tmp c) with
   | some (.bool b)=>match x,y with
     | .const (.bool true),y=>match ev [(c,false)] y with
       | some (.bool d)=>K (.bool (b||d))
       | _=>False
     | x,.const (.bool false)=>match ev [(c,true)] x with
       | some (.bool d)=>K (.bool (b&&d))
       | _=>False
     | x,y=>match ev [(c,true)] x with
       | some v=>match ev [(c,false)] y with
         | some u=>K (bif b then v else u)
         | none=>False
       | none=>False
   | _=>False
 | .nilCheck x=>match ev [] x with
   | some (.pointer (some a))=>K (.pointer (some a))
   | some (.func (.func f) xs ys)=>K (.func (.func f) xs ys)
   | _=>False
 | .binOp op t x y _=>match ev [] x with
   | some (.int k a)=>match ev [] y with
     | some (.int k' b)=>match op with
       | .shl | .shr=>Q7u op k a b und K
       | _=>bif decide (k=k') then Q7u op k a b und K else False
     | _=>False
   | some (.string a)=>match ev [] y with
     | some (.string b)=>Xgl op a b und K
     | _=>False
   | some v=>match ev [] y with
     | some u=>match op with
       | .eql=>match u with
         | .pointer (some _)=>∃ b,und (EqAt P cl w t x y v u b)/\K (.bool b)
         | _=>∃ b,und (Qm4 P t x y v u b)/\K (.bool b)
       | .neq=>∃ b,und (Qm4 P t x y v u b)/\K (.bool !b)
       | _=>False
     | none=>False
   | none=>False
 | .unOp op _ x=>match op,ev [] x with
   | .not,some (.bool b)=>K (.bool !b)
   | .neg,some (.int k a)=>∃ z,und (z=k.wrap (0-a))/\K (.int k z)
   | _,_=>False
 | .convert src dst x=>match Qif T src with
   | some _=>match Qif T dst with
     | some ⟨.int k,_,_,_⟩=>match ev [] x with
       | some (.int _ n)=>∃ z,und (z=k.wrap n)/\K (.int k z)
       | _=>False
     | some ⟨.str,_,_,_⟩=>match ev [] x with
       | some (.string s)=>K (.string s)
       | _=>False
     | _=>False
   | none=>False
 | .fieldAddr s x f=>match Qif T s with
   | some ⟨.strct fs,_,_,_⟩=>match ev [] x with
     | some (.pointer (some a))=>match nth fs f with
       | some (off,size,_)=>bif Nat.beq size 0 then False else K (.pointer (some (a.add off)))
       | none=>False
     | _=>False
   | _=>False
 | .field s x f=>match Qif T s with
   | some ⟨.strct fs,_,_,_⟩=>match ev [] x with
     | some (.agg cs)=>match nth fs f with
       | some (off,size,0)=>match nth cs.toList off with
         | some v=>K v
         | none=>False
       | some (off,size,1)=>bif Nat.beq size 0 then False else K (.agg (cs.extract off (off+size)))
       | _=>False
     | _=>False
   | _=>False
 | .indexAddr t x i=>match Qif T t with
   | some ⟨.slice _ n,_,_,_⟩=>bif Nat.beq n 0 then False else match ev [] x with
     | some (.slice A len _)=>match ev [] i with
       | some (.int _ j)=>∃ a,und (A=some a/\0<=j/\j<len)/\K (.pointer (some (a.add (j.toNat*n))))
       | _=>False
     | _=>False
   | some ⟨.arr len n,_,_,_⟩=>bif Nat.beq n 0 then False else match ev [] x with
     | some (.pointer (some a))=>match ev [] i with
       | some (.int _ j)=>und (0<=j/\j<len)/\K (.pointer (some (a.add (j.toNat*n))))
       | _=>False
     | _=>False
   | _=>False
 | .index t x i=>match Qif T t with
   | some ⟨.str,_,_,_⟩=>match ev [] x with
     | some (.string s)=>match ev [] i with
       | some (.int _ j)=>∃ c:UInt8,und (0<=j/\s[j.toNat]? = some c)/\K (.int .u8 c.toNat)
       | _=>False
     | _=>False
   | some ⟨.arr _ _,_,_,_⟩=>match ev [] x with
     | some (.agg cs)=>match ev [] i with
       | some (.int k j)=>∃ v,und (RdS P cl w (Instr.index t (.agg cs) (.int k j)) v)/\K v
       | _=>False
     | _=>False
   | _=>False
 | .extract x i=>match ev [] x with
   | some (.tuple vs)=>match nth vs.toList i with
     | some v=>K v
     | none=>False
   | _=>False
 | .build t parts=>match Qif T t with
   | some ⟨.strct fs,_,_,z⟩=>bif fs.all (fun x => !Nat.beq x.2.1 0) then match evP (ev []) parts.toList with
     | some ps=>Qxz fs (Qg z) ps fun cells=>K (.agg cells.toArray)
     | none=>False else False
   | some ⟨.arr len n,_,_,z⟩=>bif !Nat.beq n 0 then match evP (ev []) parts.toList with
     | some ps=>Qxz (Xe6 n len 0) (Qg z) ps fun cells=>K (.agg cells.toArray)
     | none=>False else False
   | _=>False
 | .makeFunc fn first captured=>match evL (ev []) first.toList with
   | some xs=>match evL (ev []) captured.toList with
     | some ys=>K (.func fn xs.toArray ys.toArray)
     | none=>False
   | none=>False
 | .makeInterface t x=>match ev [] x with
   | some v=>RdS P cl w (Instr.makeInterface t v) (.iface t v)/\K (.iface t v)
   | none=>False
 | .load t x=>match Qif T t with
   | some ⟨_,n,true,_⟩=>match ev [] x with
     | some (.pointer (some a))=>∃ cs,und (cs.length=n/\RdN cl w a cs)/\K (.agg cs.toArray)
     | _=>False
   | some ⟨_,_,false,_⟩=>match ev [] x with
     | some (.pointer (some a))=>∃ v,und (Rd1 cl w a v)/\K v
     | _=>False
   | none=>False
 | .lookup t m k ok=>match ev [] m with
   | some vm=>match ev [] k with
     | some vk=>∃ v,und (RdS P cl w (Instr.lookup t vm vk ok) v)/\K v
     | none=>False
   | none=>False
 | .slice t x lo hi mx=>match ev [] x with
   | some (.string s)=>match Qif T t with
     | some ⟨.str,_,_,_⟩=>match mx with
       | none=>match lo,hi with
         | none,some h=>match ev [] h with
           | some (.int _ j)=>und (0<=j/\j<=s.size)/\K (.string (s.extract 0 j.toNat))
           | _=>False
         | some l,none=>match ev [] l with
           | some (.int _ i)=>und (0<=i/\i<=s.size)/\K (.string (s.extract i.toNat s.size))
           | _=>False
         | some l,some h=>match ev [] l with
           | some (.int _ i)=>match ev [] h with
             | some (.int _ j)=>und (0<=i/\i<=j/\j<=s.size)/\K (.string (s.extract i.toNat j.toNat))
             | _=>False
           | _=>False
         | none,none=>K (.string (s.extract 0 s.size))
       | some _=>False
     | _=>False
   | some (.slice A n c)=>match Qif T t with
     | some ⟨.slice _ sz,_,_,_⟩=>bif Nat.beq sz 0 then False else match Xhb ev lo 0 with
       | some l=>match Xhb ev hi n with
         | some h=>match mx,hi with
           | some _,none=>False
           | _,_=>match Xhb ev mx c with
             | some m=>und (0<=l/\l<=h/\h<=m/\m<=c)/\K (.slice (if m.toNat=l.toNat then A else A.map (·.add (l.toNat*sz))) (h.toNat-l.toNat) (m.toNat-l.toNat))
             | none=>False
         | none=>False
       | none=>False
     | _=>False
   | _=>False
 | .call { callee := .builtin .len,args,argTypes }=>match evL (ev []) args.toList with
   | some [.slice A n c]=>match argTypes.toList with
     | [t]=>match Qif T t with
       | some ⟨.slice _ _,_,_,_⟩=>K (.int .i64 n)
       | _=>False
     | _=>False
   | some [.string s]=>match argTypes.toList with
     | [t]=>match Qif T t with
       | some ⟨.str,_,_,_⟩=>K (.int .i64 s.size)
       | _=>False
     | _=>False
   | some [.map r]=>∃ v,und (RdS P cl w (Builtin.len_ argTypes 0 #[.map r]) v)/\K v
   | _=>False
 | .call { callee := .builtin .min,args,argTypes:=_ }=>match evL (ev []) args.toList with
   | some [.int k x,.int _ y]=>K (.int k (min x y))
   | some [.int k x,.int _ y,.int _ z]=>K (.int k (min (min x y) z))
   | _=>False
 | .call { callee := .builtin .max,args,argTypes:=_ }=>match evL (ev []) args.toList with
   | some [.int k x,.int _ y]=>K (.int k (max x y))
   | some [.int k x,.int _ y,.int _ z]=>K (.int k (max (max x y) z))
   | _=>False
 | _=>False
def still (T:Tab):Op->Bool
 | .move _ | .assign _ | .pick .. | .nilCheck _ | .binOp .. | .unOp .. | .fieldAddr .. | .field .. | .indexAddr .. | .index .. | .extract .. | .build .. | .makeFunc .. | .makeInterface .. | .load .. | .lookup .. | .slice .. => true
 | .convert s d _=>match Qif T d with
   | some ⟨.int _,_,_,_⟩=>true
   | some ⟨.str,_,_,_⟩=>match Qif T s with
     | some ⟨.str,_,_,_⟩=>true
     | _=>false
   | _=>false
 | .call { callee := .builtin .len,.. } | .call { callee := .builtin .min,.. } | .call { callee := .builtin .max,.. }=>true
 | _=>false
section sound
variable {P:Program} {T:Tab} {cl:Cl} {ev:SP->Operand->Option Value} {und:Prop->Prop} {w:World} {K:Value->Prop} {a:Act} {c:Prop}
theorem Qdx {e:Operand->Option Value} {ρ:Operand->Value} (h:∀ x v,e x=some v->ρ x=v):∀ {l:List Operand} {vs:List Value},evL e l=some vs->l.map ρ=vs
 | [],vs,hv=>by simp only[evL,Zbu] at hv;simp[<- hv]
 | x :: l,vs,hv=>by
   simp only[evL] at hv;split at hv
   . rename_i v hx;split at hv
     . rename_i us hl;simp only[Zbu] at hv;subst hv;simp[h x v hx,Qdx h hl]
     . cases hv
   . cases hv
theorem Q0r {e:Operand->Option Value} {ρ:Operand->Value} (h:∀ x v,e x=some v->ρ x=v):∀ {l:List (Nat×Operand)} {vs:List (Nat×Value)},evP e l=some vs->l.map (fun x=>(x.1,ρ x.2))=vs
 | [],vs,hv=>by simp only[evP,Zbu] at hv;simp[<- hv]
 | (i,x) :: l,vs,hv=>by
   simp only[evP] at hv;split at hv
   . rename_i v hx;split at hv
     . rename_i us hl;simp only[Zbu] at hv;subst hv;simp[h x v hx,Q0r h hl]
     . cases hv
   . cases hv
theorem str_eq (a b:ByteArray):(a.toList == b.toList)=decide (a=b):=by
 by_cases h:a=b
 . subst h;simp
 . have:a.toList≠b.toList:=(by intro e;apply h;rw[ByteArray.toList_eq,ByteArray.toList_eq] at e;exact WideShapes.bytes_inj e);simp[h,this]
theorem Qx8 (hund:∀ Φ,und Φ->c->Φ) {op:BinOp} {k k':IntKind} {x y:Int} {t:TypeId} (hk:k=k'\/op = .shl\/op = .shr) (h:Q7u op k x y und K) :
 ∃ v,K v/\(c->∀ (ox oy:Operand) (w':World),(do eqGuard op t ox oy (.int k x) (.int k' y);binOp op t (.int k x) (.int k' y)).run P w' = .ok v w'):=by
 have hg:∀ (ox oy:Operand) (w':World),(eqGuard op t ox oy (.int k x) (.int k' y)).run P w' = .ok () w':=(by intro ox oy w';unfold eqGuard;split <;> simp);cases op <;> simp only[Q7u] at h
 case eql | neq | lss | leq | gtr | geq =>
  obtain rfl:k=k':=by simpa using hk
  refine⟨_,h,fun _ ox oy w' => ?_⟩;simp only[Sem.run_bind,hg,Result.andThen_ok];simp[binOp,Op.intCmp,Bool.beq_eq_decide_eq,bne]
 case shl | shr =>
  obtain⟨z,hz,hK⟩:=h;refine⟨_,hK,fun hc ox oy w' => ?_⟩;obtain⟨h0,rfl⟩:=hund _ hz hc;simp only[Sem.run_bind,hg,Result.andThen_ok];simp[binOp,Op.shift,Int.not_lt.2 h0]
 case quo | rem =>
  obtain rfl:k=k':=by simpa using hk
  obtain⟨z,hz,hK⟩:=h;refine⟨_,hK,fun hc ox oy w' => ?_⟩;obtain⟨h0,rfl⟩:=hund _ hz hc;simp only[Sem.run_bind,hg,Result.andThen_ok];simp[binOp,Op.intDiv,h0]
 all_goals
  obtain rfl:k=k':=by simpa using hk
  obtain⟨z,hz,hK⟩:=h;refine⟨_,hK,fun hc ox oy w' => ?_⟩;obtain rfl:=hund _ hz hc;simp only[Sem.run_bind,hg,Result.andThen_ok];simp[binOp,Op.intArith,Op.intBits]
theorem Qzn (hund:∀ Φ,und Φ->c->Φ) {op:BinOp} {x y:ByteArray} {t:TypeId} (h:Xgl op x y und K) :
 ∃ v,K v/\(c->∀ (ox oy:Operand) (w':World),(do eqGuard op t ox oy (.string x) (.string y);binOp op t (.string x) (.string y)).run P w' = .ok v w'):=by
 have hg:∀ (ox oy:Operand) (w':World),(eqGuard op t ox oy (.string x) (.string y)).run P w' = .ok () w':=(by intro ox oy w';unfold eqGuard;split <;> simp);cases op <;> simp only[Xgl] at h
 case add =>
  refine⟨_,h.2,fun hc ox oy w' => ?_⟩;have h1:=hund _ h.1 hc;simp only[Sem.run_bind,hg,Result.andThen_ok];have:¬ ((x.size+y.size:Nat):Int) > IntKind.i64.max:=by simp[IntKind.max,IntKind.signed,IntKind.bits];omega
  simp only[binOp,Op.stringOp,if_neg this];simp
 case eql | neq | lss | leq | gtr | geq =>
  refine⟨_,h,fun _ ox oy w' => ?_⟩;simp only[Sem.run_bind,hg,Result.andThen_ok];simp[binOp,Op.stringOp,str_eq]
 all_goals exact h.elim
theorem Q94 {d:TypeDesc} {k:IntKind} (h:Qw8 P d = .int k):d = .int k:=by cases d <;> simp[Qw8] at h;rw[h]
theorem Qq8 {d:TypeDesc} (h:Qw8 P d = .str):d = .string:=by cases d <;> simp[Qw8] at h;rfl
theorem Qmv {d:TypeDesc} {e n:Nat} (h:Qw8 P d = .slice e n):d = .slice e/\P.cellsOf e=n:=by cases d <;> simp[Qw8] at h;exact⟨by rw[h.1],by rw[<- h.1];exact h.2⟩
theorem Xer {d:TypeDesc} {l n:Nat} (h:Qw8 P d = .arr l n):∃ e,d = .array l e/\P.cellsOf e=n:=by cases d <;> simp[Qw8] at h;exact⟨_,by rw[h.1],h.2⟩
theorem Xii {d:TypeDesc} {k e:Nat} (h:Qw8 P d = .map k e):d = .map k e:=by cases d <;> simp[Qw8] at h;rw[h.1,h.2]
theorem Qtc {d:TypeDesc} {fs:List (Nat×Nat×Nat)} (h:Qw8 P d = .strct fs):∃ gs:Array Field,d = .struct gs/\gs.toList.map (fun f=>(f.offset,P.cellsOf f.type,Xbk P f.type))=fs:=by
 cases d <;> simp only[Qw8,Ty.strct.injEq,reduceCtorEq] at h;exact⟨_,rfl,h⟩
theorem Qr5 {gs:Array Field} {fs:List (Nat×Nat×Nat)} (h:gs.toList.map (fun f=>(f.offset,P.cellsOf f.type,Xbk P f.type))=fs) {i off size k:Nat} (hn:nth fs i=some (off,size,k)) :
 ∃ f,gs[i]? = some f/\f.offset=off/\P.cellsOf f.type=size/\Xbk P f.type=k:=by
 rw[Qa1,<- h,Zaq,Zcr] at hn
 cases hg:gs[i]? with
 | none=>rw[hg] at hn;simp at hn
 | some f =>
   rw[hg] at hn;simp only[Zch,Zbu,Prod.mk.injEq] at hn;exact⟨f,rfl,hn.1,hn.2.1,hn.2.2⟩
theorem Qck {α β:Type} (f:α->β) (l:Array α):l.map f=(l.toList.map f).toArray:=by apply Zco;simp
theorem Qvz:∀ {gs:List Field} {fs:List (Nat×Nat×Nat)},gs.map (fun f=>(f.offset,P.cellsOf f.type,Xbk P f.type))=fs->(∀ x∈fs,x.2.1≠0) ->
 gs.mapM (fun f=>(P.info? f.type).map fun i=>(f.offset,i.size))=some (fs.map fun x=>(x.1,x.2.1))
 | [],fs,h,_=>by simp at h;subst h;simp
 | g :: gs,fs,h,hz=>by
   cases fs with
   | nil=>simp at h
   | cons x fs =>
     simp only[Zm,Zcx] at h;obtain⟨rfl,h2⟩:=h;have ih:=Qvz h2 (fun y hy=>hz y (by simp[hy]));have h0:P.cellsOf g.type≠0:=hz (g.offset,P.cellsOf g.type,Xbk P g.type) (by simp)
     cases hi:P.info? g.type with
     | none=>simp[Program.cellsOf,hi] at h0
     | some i=>simp[List.mapM_cons,hi,ih,Program.cellsOf]
theorem Qwp (hT:Qbe P T) {t:TypeId} {fs:List (Nat×Nat×Nat)} {n:Nat} {g:Bool} {z:Value} (ht:Qif T t=some ⟨.strct fs,n,g,z⟩)
 (hall:fs.all (fun x => !Nat.beq x.2.1 0)=true) {ps:List (Nat×Value)} {K:List Value->Prop} (h:Qxz fs (Qg z) ps K) :
 ∃ cells,K cells/\∀ (parts:Array (Nat×Value)),parts.toList=ps->∀ w,(Instr.build t parts).run P w = .ok (.agg cells.toArray) w:=by
 obtain⟨it,d,hit,hd,hz,hsh,_⟩:=Xm (hT.get ht);obtain⟨gs,rfl,hgs⟩:=Qtc hsh;have hnz':∀ x∈fs,x.2.1≠0:=fun x hx=>(by have h1:=Zaf.1 hall _ hx;exact Za3 (by simpa using h1))
 have hnz:∀ i off size k,nth fs i=some (off,size,k)->size≠0:=fun i off size k hn=>(by rw[Qa1] at hn;exact hnz' _ (Zax hn))
 have hpl:=Qvz hgs hnz'
 obtain⟨r,hr,hK⟩:=Qil (place:=((fs.map fun x=>(x.1,x.2.1)).toArray[·]?)) (fun i off size k hn=>by
  rw[Qa1] at hn;simp[hn]) hnz h
 refine⟨r,hK,fun parts hparts w=>run_build w t parts r.toArray ?_⟩;unfold Program.built;simp only[hit,hd,hz,hpl,hparts];have:z.cells=(Qg z).toArray:=by rw[<- Qan]
 rw[this];exact hr
theorem Q6e (hT:Qbe P T) {t:TypeId} {len n m:Nat} {g:Bool} {z:Value} (ht:Qif T t=some ⟨.arr len n,m,g,z⟩) (hn:n≠0) {ps:List (Nat×Value)} {K:List Value->Prop} (h:Qxz (Xe6 n len 0) (Qg z) ps K) :
 ∃ cells,K cells/\∀ (parts:Array (Nat×Value)),parts.toList=ps->∀ w,(Instr.build t parts).run P w = .ok (.agg cells.toArray) w:=by
 obtain⟨it,d,hit,hd,hz,hsh,_⟩:=Xm (hT.get ht);obtain⟨e,rfl,he⟩:=Xer hsh
 obtain⟨r,hr,hK⟩:=Qil (place:=fun i=>some (i*n,n)) (fun i off size k hk=>by
  obtain⟨h1,h2⟩:=Qsx hk;rw[h1,h2,Zbg]) (fun i off size k hk=>by rw[(Qsx hk).2];exact hn) h
 refine⟨r,hK,fun parts hparts w=>run_build w t parts r.toArray ?_⟩
 cases hie:P.info? e with
 | none=>simp[Program.cellsOf,hie] at he;exact absurd he.symm hn
 | some ie =>
   have hs:ie.size=n:=by simpa [Program.cellsOf,hie] using he
   unfold Program.built;simp only[hit,hd,hz,hie,hparts,hs];have:z.cells=(Qg z).toArray:=by rw[<- Qan]
   rw[this];exact hr
theorem Qk4 (s:Sem Value) (v:Value) (w:World) (h:s.run P w = .ok v w):(do let x <- s;pure (Next.value x):Sem Next).run P w = .ok (.value v) w:=by
 simp[h]
theorem Q37 (hT:Qbe P T) (hev:c->∀ x v,ev [] x=some v->a.eval x=v)
 (hpk:c->∀ t b d x v,ev [] (.tmp t)=some (.bool d)->ev [(t,b)] x=some v->d=b->a.eval x=v)
 (hund:∀ Φ,und Φ->c->Φ) {o:Oper} (h:Xha P T cl ev und o.op w K) :
 ∃ v,K v/\(c->∀ w',cl.rel w w'->(execOp a.eval o).run P w' = .ok (.value v) w'):=by
 unfold Xha at h;unfold execOp;split at h
 . -- move
   rename_i x hop;split at h
   . rename_i v hx;exact⟨v,h,fun hc w' _=>by simp[hop,hev hc _ _ hx]⟩
   . exact h.elim
 . rename_i x hop;split at h
   . rename_i v hx;exact⟨v,h,fun hc w' _=>by simp[hop,hev hc _ _ hx]⟩
   . exact h.elim
 . -- pick
   rename_i t x y hop;split at h
   . rename_i b hb;have hb':c->a.eval (.tmp t) = .bool b:=fun hc=>hev hc _ _ hb
     split at h
     . split at h
       . rename_i d hd;refine⟨_,h,fun hc w' _ => ?_⟩;simp only[hop,hb' hc,asBool];cases hbb:b
         . subst hbb;simp[hpk hc t false false _ _ hb hd rfl]
         . simp[Act.eval]
       . exact h.elim
     . split at h
       . rename_i d hd;refine⟨_,h,fun hc w' _ => ?_⟩;simp only[hop,hb' hc,asBool];cases hbb:b
         . simp[Act.eval]
         . subst hbb;simp[hpk hc t true true _ _ hb hd rfl]
       . exact h.elim
     . split at h
       . rename_i v hv;split at h
         . rename_i u hu;refine⟨_,h,fun hc w' _ => ?_⟩;simp only[hop,hb' hc,asBool];cases hbb:b
           . subst hbb;simp[hpk hc t false false _ _ hb hu rfl]
           . subst hbb;simp[hpk hc t true true _ _ hb hv rfl]
         . exact h.elim
       . exact h.elim
   . exact h.elim
 . -- nilCheck
   rename_i x hop;split at h
   . rename_i b hx;exact⟨_,h,fun hc w' _=>by simp[hop,hev hc _ _ hx]⟩
   . rename_i f xs ys hx;exact⟨_,h,fun hc w' _=>by simp[hop,hev hc _ _ hx]⟩
   . exact h.elim
 . -- binOp
   rename_i op t x y yt hop;split at h
   . rename_i k n hx;split at h
     . rename_i k' m hy
       have key:(k=k'\/op = .shl\/op = .shr)/\Q7u op k n m und K:=by
        split at h
        . exact⟨.inr (.inl rfl),h⟩
        . exact⟨.inr (.inr rfl),h⟩
        . by_cases hk:k=k'
          . exact⟨.inl hk,by simpa [hk] using h⟩
          . simp[hk] at h
       obtain⟨v,hK,hr⟩:=Qx8 (P:=P) (t:=t) hund key.1 key.2;exact⟨v,hK,fun hc w' _=>by simp only[hop,hev hc _ _ hx,hev hc _ _ hy];exact Qk4 _ _ _ (hr hc x y w')⟩
     . exact h.elim
   . rename_i s hx;split at h
     . rename_i r hy;obtain⟨v,hK,hr⟩:=Qzn (P:=P) (t:=t) hund h;exact⟨v,hK,fun hc w' _=>by simp only[hop,hev hc _ _ hx,hev hc _ _ hy];exact Qk4 _ _ _ (hr hc x y w')⟩
     . exact h.elim
   . rename_i v _ _ hx;split at h
     . rename_i u hy;split at h
       . split at h
         . obtain⟨b,hb,hK⟩:=h;exact⟨_,hK,fun hc w' hw=>by simp only[hop,hev hc _ _ hx,hev hc _ _ hy];exact Qk4 _ _ _ ((hund _ hb hc) w' hw)⟩
         . obtain⟨b,hb,hK⟩:=h;exact⟨_,hK,fun hc w' _=>by simp only[hop,hev hc _ _ hx,hev hc _ _ hy];exact Qk4 _ _ _ ((hund _ hb hc) w').1⟩
       . obtain⟨b,hb,hK⟩:=h;exact⟨_,hK,fun hc w' _=>by simp only[hop,hev hc _ _ hx,hev hc _ _ hy];exact Qk4 _ _ _ ((hund _ hb hc) w').2⟩
       . exact h.elim
     . exact h.elim
   . exact h.elim
 . -- unOp
   rename_i op t x hop;split at h
   . rename_i b hx;exact⟨_,h,fun hc w' _=>by simp[hop,hev hc _ _ hx,Op.unary]⟩
   . rename_i k n hx;obtain⟨z,hz,hK⟩:=h;exact⟨_,hK,fun hc w' _=>by simp[hop,hev hc _ _ hx,Op.unary,Op.intArith,hund _ hz hc]⟩
   . exact h.elim
 . -- convert
   rename_i src dst x hop;split at h
   . rename_i es hs;obtain⟨_,ds,_,hds,_⟩:=Xm (hT.get hs);split at h
     . rename_i k s1 s2 s3 hd;obtain⟨_,dd,_,hdd,_,hsh,_⟩:=Xm (hT.get hd);obtain rfl:=Q94 hsh;split at h
       . rename_i k' n hx;obtain⟨z,hz,hK⟩:=h;refine⟨_,hK,fun hc w' _ => ?_⟩;simp[hop,hev hc _ _ hx,convert,run_underlying hds,run_underlying hdd,Conv.intToInt,hund _ hz hc]
       . exact h.elim
     . rename_i s1 s2 s3 hd;obtain⟨_,dd,_,hdd,_,hsh,_⟩:=Xm (hT.get hd);obtain rfl:=Qq8 hsh;split at h
       . rename_i s hx;refine⟨_,h,fun hc w' _ => ?_⟩;simp[hop,hev hc _ _ hx,convert,run_underlying hds,run_underlying hdd]
       . exact h.elim
     . exact h.elim
   . exact h.elim
 . -- fieldAddr
   rename_i t x f hop;split at h
   . rename_i fs s1 s2 s3 ht;obtain⟨_,d,_,hd,_,hsh,_⟩:=Xm (hT.get ht);obtain⟨gs,rfl,hgs⟩:=Qtc hsh;split at h
     . rename_i p hx;split at h
       . rename_i off size k hn;obtain⟨fl,hf,rfl,hcs,_⟩:=Qr5 hgs hn;cases hz:Nat.beq size 0 <;> simp only[hz,cond_true,cond_false] at h
         have hz':=Za3 hz;refine⟨_,h,fun hc w' _ => ?_⟩;simp[hop,hev hc _ _ hx,Instr.fieldAt,run_underlying hd,hf,Instr.sureAddr,fieldPlace,Qdh hcs hz',hz']
       . exact h.elim
     . exact h.elim
   . exact h.elim
 . -- field
   rename_i t x f hop;split at h
   . rename_i fs s1 s2 s3 ht;obtain⟨_,d,_,hd,_,hsh,_⟩:=Xm (hT.get ht);obtain⟨gs,rfl,hgs⟩:=Qtc hsh;split at h
     . rename_i cs hx;split at h
       . rename_i off size hn;obtain⟨fl,hf,rfl,hcs,hag⟩:=Qr5 hgs hn;split at h
         . rename_i v hv;rw[Qa1,Zcr] at hv;refine⟨_,h,fun hc w' _ => ?_⟩;simp[hop,hev hc _ _ hx,Instr.field,run_underlying hd,hf,asAgg,part,Q18 hag,hv]
         . exact h.elim
       . rename_i off size hn;obtain⟨fl,hf,rfl,hcs,hag⟩:=Qr5 hgs hn;cases hz:Nat.beq size 0 <;> simp only[hz,cond_true,cond_false] at h
         have hz':=Za3 hz;refine⟨_,h,fun hc w' _ => ?_⟩;simp[hop,hev hc _ _ hx,Instr.field,run_underlying hd,hf,asAgg,part,Q19 hag,Qdh hcs hz']
       . exact h.elim
     . exact h.elim
   . exact h.elim
 . -- indexAddr
   rename_i t x i hop;split at h
   . rename_i e n s1 s2 s3 ht;obtain⟨_,d,_,hd,_,hsh,_⟩:=Xm (hT.get ht);obtain⟨rfl,hcs⟩:=Qmv hsh;cases hz:Nat.beq n 0 <;> simp only[hz,cond_true,cond_false] at h
     have hz':=Za3 hz;split at h
     . rename_i A len cap hx;split at h
       . rename_i k j hj;obtain⟨p,hp,hK⟩:=h;refine⟨_,hK,fun hc w' _ => ?_⟩;obtain⟨rfl,h0,hlt⟩:=hund _ hp hc;simp[hop,hev hc _ _ hx,hev hc _ _ hj,Instr.indexAt,asIntOf,run_underlying hd,Qdh hcs hz',h0,hlt]
       . exact h.elim
     . exact h.elim
   . rename_i len n s1 s2 s3 ht;obtain⟨_,d,_,hd,_,hsh,_⟩:=Xm (hT.get ht);obtain⟨e,rfl,hcs⟩:=Xer hsh;cases hz:Nat.beq n 0 <;> simp only[hz,cond_true,cond_false] at h
     have hz':=Za3 hz;split at h
     . rename_i p hx;split at h
       . rename_i k j hj;refine⟨_,h.2,fun hc w' _ => ?_⟩;obtain⟨h0,hlt⟩:=hund _ h.1 hc;simp[hop,hev hc _ _ hx,hev hc _ _ hj,Instr.indexAt,asIntOf,Instr.sureAddr,run_underlying hd,Qdh hcs hz',h0,hlt]
       . exact h.elim
     . exact h.elim
   . exact h.elim
 . -- index
   rename_i t x i hop;split at h
   . rename_i s1 s2 s3 ht;obtain⟨_,d,_,hd,_,hsh,_⟩:=Xm (hT.get ht);obtain rfl:=Qq8 hsh;split at h
     . rename_i s hx;split at h
       . rename_i k j hj;obtain⟨b,hb,hK⟩:=h;refine⟨_,hK,fun hc w' _ => ?_⟩;obtain⟨h0,hb'⟩:=hund _ hb hc;simp[hop,hev hc _ _ hx,hev hc _ _ hj,Instr.index,asIntOf,run_underlying hd,h0,hb']
       . exact h.elim
     . exact h.elim
   . split at h
     . rename_i cs hx;split at h
       . rename_i k j hj;obtain⟨v,hv,hK⟩:=h;refine⟨_,hK,fun hc w' hw => ?_⟩;have hr:=hund _ hv hc w' hw;simp only[hop,hev hc _ _ hx,hev hc _ _ hj];exact Qk4 _ _ _ hr
       . exact h.elim
     . exact h.elim
   . exact h.elim
 . -- extract
   rename_i x i hop;split at h
   . rename_i vs hx;split at h
     . rename_i v hv;rw[Qa1,Zcr] at hv;exact⟨_,h,fun hc w' _=>by simp[hop,hev hc _ _ hx,Instr.extract,hv]⟩
     . exact h.elim
   . exact h.elim
 . -- build
   rename_i t parts hop;split at h
   . rename_i fs s1 s2 z ht;cases hall:fs.all (fun x => !Nat.beq x.2.1 0) <;> simp only[hall,cond_true,cond_false] at h
     split at h
     . rename_i ps hps;obtain⟨cells,hK,hr⟩:=Qwp hT ht hall h;refine⟨_,hK,fun hc w' _ => ?_⟩;simp only[hop];refine Qk4 _ _ _ (hr _ ?_ w');rw[Array.toList_map];exact Q0r (ρ:=a.eval) (hev hc) hps
     . exact h.elim
   . rename_i len n s1 s2 z ht;cases hn:Nat.beq n 0 <;> simp only[hn,Zc3,Zcs,cond_true,cond_false] at h
     split at h
     . rename_i ps hps;obtain⟨cells,hK,hr⟩:=Q6e hT ht (Za3 hn) h;refine⟨_,hK,fun hc w' _ => ?_⟩;simp only[hop];refine Qk4 _ _ _ (hr _ ?_ w');rw[Array.toList_map];exact Q0r (ρ:=a.eval) (hev hc) hps
     . exact h.elim
   . exact h.elim
 . -- makeFunc
   rename_i fn first captured hop
   split at h
   . rename_i xs hxs;split at h
     . rename_i ys hys;refine⟨_,h,fun hc w' _ => ?_⟩;have e1:=Qdx (ρ:=a.eval) (hev hc) hxs;have e2:=Qdx (ρ:=a.eval) (hev hc) hys;simp only[hop,Instr.makeFunc,<- e1,<- e2,<- Qck];simp
     . exact h.elim
   . exact h.elim
 . -- makeInterface
   rename_i t x hop;split at h
   . rename_i v hx;exact⟨_,h.2,fun hc w' hw=>by simp only[hop,hev hc _ _ hx];exact Qk4 _ _ _ (h.1 w' hw)⟩
   . exact h.elim
 . -- load
   rename_i t x hop;split at h
   . rename_i sh n z ht;split at h
     . rename_i p hx;obtain⟨cs,hcs,hK⟩:=h;refine⟨_,hK,fun hc w' hw => ?_⟩;obtain⟨hl,hr⟩:=hund _ hcs hc;have hlc:=run_loadCells_list (P:=P) (w:=w') p cs (hr.run hw);rw[hl] at hlc;simp only[hop,hev hc _ _ hx];refine Qk4 _ _ _ ?_;simp[Instr.loadAt,Instr.sureAddr,loadVar,Qm2 (hT.get ht),Qkf (hT.get ht),hlc]
     . exact h.elim
   . rename_i sh n z ht;split at h
     . rename_i p hx;obtain⟨v,hv,hK⟩:=h;refine⟨_,hK,fun hc w' hw => ?_⟩;have hr:=(hund _ hv hc).run hw;simp only[hop,hev hc _ _ hx];refine Qk4 _ _ _ ?_;simp[Instr.loadAt,Instr.sureAddr,loadVar,Qm2 (hT.get ht),hr]
     . exact h.elim
   . exact h.elim
 . -- lookup
   rename_i t m k ok hop;split at h
   . rename_i vm hm;split at h
     . rename_i vk hk;obtain⟨v,hv,hK⟩:=h;exact⟨_,hK,fun hc w' hw=>by simp only[hop,hev hc _ _ hm,hev hc _ _ hk];exact Qk4 _ _ _ (hund _ hv hc w' hw)⟩
     . exact h.elim
   . exact h.elim
 . -- slice
   rename_i t x lo hi mx hop;split at h
   . rename_i s hx;split at h
     . rename_i s1 s2 s3 ht;obtain⟨_,d,_,hd,_,hsh,_⟩:=Xm (hT.get ht);obtain rfl:=Qq8 hsh;split at h
       . split at h
         . rename_i y;split at h
           . rename_i k j hy;refine⟨_,h.2,fun hc w' _ => ?_⟩;obtain⟨h0,h1⟩:=hund _ h.1 hc;simp[hop,hev hc _ _ hx,hev hc _ _ hy,Instr.sliceAt,Instr.slice,run_underlying hd,Instr.sliceBounds,Instr.sliceBound,asIntOf,h0,h1]
           . exact h.elim
         . rename_i y;split at h
           . rename_i k j hy;refine⟨_,h.2,fun hc w' _ => ?_⟩;obtain⟨h0,h1⟩:=hund _ h.1 hc;simp[hop,hev hc _ _ hx,hev hc _ _ hy,Instr.sliceAt,Instr.slice,run_underlying hd,Instr.sliceBounds,Instr.sliceBound,asIntOf,h0,h1]
           . exact h.elim
         . rename_i y y';split at h
           . rename_i k j hy;split at h
             . rename_i k' j' hy';refine⟨_,h.2,fun hc w' _ => ?_⟩;obtain⟨h0,h1,h2⟩:=hund _ h.1 hc;have h3:(0:Int)<=j':=by omega
               have h4:j<=(j'.toNat:Int):=by omega
               simp[hop,hev hc _ _ hx,hev hc _ _ hy,hev hc _ _ hy',Instr.sliceAt,Instr.slice,run_underlying hd,Instr.sliceBounds,Instr.sliceBound,asIntOf,h0,h3,h2];intro h7;omega
             . exact h.elim
           . exact h.elim
         . refine⟨_,h,fun hc w' _ => ?_⟩;simp[hop,hev hc _ _ hx,Instr.sliceAt,Instr.slice,run_underlying hd,Instr.sliceBounds]
       . exact h.elim
     . exact h.elim
   . rename_i A n cp hx;split at h
     . rename_i e sz s1 s2 s3 ht;obtain⟨_,d,_,hd,_,hsh,_⟩:=Xm (hT.get ht);obtain⟨rfl,hcs⟩:=Qmv hsh;cases hz:Nat.beq sz 0 <;> simp only[hz,cond_true,cond_false] at h
       have hz':=Za3 hz;split at h
       . rename_i l hl;split at h
         . rename_i g hg;split at h
           . exact h.elim
           . rename_i hno;split at h
             . rename_i m hm;refine⟨_,h.2,fun hc w' _ => ?_⟩;obtain⟨h0,h1,h2,h3⟩:=hund _ h.1 hc
               have hopt:∀ (y:Option Operand) (d:Nat) (r:Int),Xhb ev y d=some r->(y=none/\r=d)\/∃ z k,y=some z/\a.eval z = .int k r:=by
                intro y d r hy
                cases y with
                | none=>simp only[Xhb,Zbu] at hy;exact .inl ⟨rfl,hy.symm⟩
                | some z =>
                  simp only[Xhb] at hy;split at hy
                  . rename_i k q hq;simp only[Zbu] at hy;subst hy;exact .inr ⟨z,k,rfl,hev hc _ _ hq⟩
                  . cases hy
               have h5:(0:Int)<=g:=by omega
               have h6:(0:Int)<=m:=by omega
               have hlg:l<=(g.toNat:Int):=by omega
               have hgm:g<=(m.toNat:Int):=by omega
               have h8:g<=max m 0:=by omega
               have h9:l<=max g 0:=by omega
               have hbounds:(Instr.sliceBounds true n cp (lo.map a.eval) (hi.map a.eval) (mx.map a.eval)).run P w' = .ok (l.toNat,g.toNat,m.toNat) w':=by
                rcases hopt _ _ _ hl with⟨rfl,rfl⟩ | ⟨zl,kl,rfl,el⟩ <;> rcases hopt _ _ _ hg with⟨rfl,rfl⟩ | ⟨zg,kg,rfl,eg⟩ <;> rcases hopt _ _ _ hm with⟨rfl,rfl⟩ | ⟨zm,km,rfl,em⟩ <;>
                 first
                 | exact absurd rfl (hno _ rfl)
                 | (simp[Instr.sliceBounds,Instr.sliceBound,asIntOf, *];done)
                 | (simp[Instr.sliceBounds,Instr.sliceBound,asIntOf, *];omega)
                 | (simp[Instr.sliceBounds,Instr.sliceBound,asIntOf, *];intros;omega)
                 | (try simp only[Za4] at hlg hgm
                    simp[Instr.sliceBounds,Instr.sliceBound,asIntOf, *])
               simp only[hop,hev hc _ _ hx];refine Qk4 _ _ _ ?_;simp[Instr.sliceAt,Instr.slice,run_underlying hd,hbounds,Qdh hcs hz']
             . exact h.elim
         . exact h.elim
       . exact h.elim
     . exact h.elim
   . exact h.elim
 . -- len
   rename_i args argTypes hop;split at h
   . rename_i A n cp hargs;split at h
     . rename_i t ht1;split at h
       . rename_i e sz s1 s2 s3 ht;obtain⟨_,d,_,hd,_,hsh,_⟩:=Xm (hT.get ht);obtain⟨rfl,_⟩:=Qmv hsh;refine⟨_,h,fun hc w' _ => ?_⟩;have e1:=Qdx (ρ:=a.eval) (hev hc) hargs;have e2:args.map a.eval = #[.slice A n cp]:=by rw[Qck,e1]
         have e3:argTypes = #[t]:=by apply Zco;simpa using ht1
         simp[hop,resolve,invoke,builtin,Builtin.len_,e2,e3,run_underlying hd,goInt]
       . exact h.elim
     . exact h.elim
   . rename_i s hargs;split at h
     . rename_i t ht1;split at h
       . rename_i s1 s2 s3 ht;obtain⟨_,d,_,hd,_,hsh,_⟩:=Xm (hT.get ht);obtain rfl:=Qq8 hsh;refine⟨_,h,fun hc w' _ => ?_⟩;have e1:=Qdx (ρ:=a.eval) (hev hc) hargs;have e2:args.map a.eval = #[.string s]:=by rw[Qck,e1]
         have e3:argTypes = #[t]:=by apply Zco;simpa using ht1
         simp[hop,resolve,invoke,builtin,Builtin.len_,e2,e3,run_underlying hd,goInt]
       . exact h.elim
     . exact h.elim
   . rename_i r hargs;obtain⟨v,hv,hK⟩:=h;refine⟨_,hK,fun hc w' hw => ?_⟩;have e1:=Qdx (ρ:=a.eval) (hev hc) hargs;have e2:args.map a.eval = #[.map r]:=by rw[Qck,e1]
     have hr:=hund _ hv hc w' hw;have hr':(Builtin.len_ argTypes o.type #[.map r]).run P w' = .ok v w':=hr;simp[hop,resolve,invoke,builtin,e2,hr']
   . exact h.elim
 . -- min
   rename_i args argTypes hop;split at h
   . rename_i k x k' y hargs;refine⟨_,h,fun hc w' _ => ?_⟩;have e1:=Qdx (ρ:=a.eval) (hev hc) hargs;have e2:args.map a.eval = #[.int k x,.int k' y]:=by rw[Qck,e1]
     have:(if y<x then y else x)=min x y:=by split <;> omega
     simp[hop,resolve,invoke,builtin,e2,Builtin.min_,Builtin.min2,this]
   . rename_i k x k' y k'' z hargs;refine⟨_,h,fun hc w' _ => ?_⟩;have e1:=Qdx (ρ:=a.eval) (hev hc) hargs;have e2:args.map a.eval = #[.int k x,.int k' y,.int k'' z]:=by rw[Qck,e1]
     have e3:(if y<x then y else x)=min x y:=by split <;> omega
     have e4:(if z<min x y then z else min x y)=min (min x y) z:=by split <;> omega
     simp[hop,resolve,invoke,builtin,e2,Builtin.min_,Builtin.min2,e3,e4]
   . exact h.elim
 . -- max
   rename_i args argTypes hop;split at h
   . rename_i k x k' y hargs;refine⟨_,h,fun hc w' _ => ?_⟩;have e1:=Qdx (ρ:=a.eval) (hev hc) hargs;have e2:args.map a.eval = #[.int k x,.int k' y]:=by rw[Qck,e1]
     have:(if x<y then y else x)=max x y:=by split <;> omega
     simp[hop,resolve,invoke,builtin,e2,Builtin.max_,Builtin.max2,this]
   . rename_i k x k' y k'' z hargs;refine⟨_,h,fun hc w' _ => ?_⟩;have e1:=Qdx (ρ:=a.eval) (hev hc) hargs;have e2:args.map a.eval = #[.int k x,.int k' y,.int k'' z]:=by rw[Qck,e1]
     have e3:(if x<y then y else x)=max x y:=by split <;> omega
     have e4:(if max x y<z then z else max x y)=max (max x y) z:=by split <;> omega
     simp[hop,resolve,invoke,builtin,e2,Builtin.max_,Builtin.max2,e3,e4]
   . exact h.elim
 . exact h.elim
end sound
inductive Qkj (P:Program) (s:Sem Value) (w:World) (R:Value->World->Prop):Prop
 | mk (v:Value) (w':World) (h:s.run P w = .ok v w') (r:R v w'):Qkj P s w R
inductive Qxc (P:Program) (s:Sem Unit) (w:World) (R:Value->World->Prop):Prop
 | mk (w':World) (h:s.run P w = .ok () w') (r:R undef w'):Qxc P s w R
def Qtv (P : Program) (f : FuncId) : Prop := ∃ fn, P.funcs[f]? = some fn ∧ (fn.name == "runtime.NumGoroutine") = false ∧ fn.body.isNone = false
structure Cal (P:Program) (f:FuncId) (args:List Value) (w:World) (R:Value->World->Prop):Prop where
 ok:Qtv P f
 calls:Calls P f args.toArray w fun e w'=>∃ v,e = .returned v/\R v w'
theorem Cal.mono {P:Program} {f:FuncId} {args:List Value} {w:World} {R R':Value->World->Prop} (h:Cal P f args w R) (hr:∀ v w',R v w'->R' v w'):Cal P f args w R' :=
 ⟨h.ok,h.calls.mono fun _ _ ⟨v,he,hv⟩=>⟨v,he,hr v _ hv⟩⟩
structure New (w w1:World) (b:Nat) (o:Obj):Prop where
 world:w1=w.alloc o
 block:b=w.heap.size
theorem New.size {w w1:World} {b:Nat} {o:Obj} (h:New w w1 b o):w1.heap.size=w.heap.size+1:=by rw[h.world];simp
theorem New.ext {w w1:World} {b:Nat} {o:Obj} (h:New w w1 b o):Ext w w1:=by rw[h.world];exact(Below.refl _ _).alloc (Zg _) o
theorem New.at_ {w w1:World} {b:Nat} {o:Obj} (h:New w w1 b o):w1.heap[b]? = some o:=by rw[h.world,h.block];exact heap_alloc_new w o
def At (w:World) (b:Nat) (t:TypeId) (l:List Value):Prop:=w.heap[b]? = some (.cells l.toArray t (0,0))
theorem New.At {w w1:World} {b:Nat} {t:TypeId} {l:List Value} (h:New w w1 b (.cells l.toArray t)):At w1 b t l:=h.at_
theorem At.lt {w:World} {b:Nat} {t:TypeId} {l:List Value} (h:At w b t l):b<w.heap.size:=by
 unfold At at h;rcases Zb5 b w.heap.size with hlt | hge
 . exact hlt
 . rw[Zbp hge] at h;cases h
theorem At.ext {w w':World} {b:Nat} {t:TypeId} {l:List Value} (h:At w b t l) (hx:Ext w w'):At w' b t l:=(hx.block b h.lt).trans h
theorem At.mod {w w':World} {b:Nat} {t:TypeId} {l:List Value} {S:Nat->Prop} (h:At w b t l) (hx:Mod S w w') (hs:¬ S b):At w' b t l:=(hx.block b h.lt hs).trans h
theorem At.cell {w:World} {b:Nat} {t:TypeId} {l:List Value} (h:At w b t l) (k:Nat):w.cell? ⟨b,k,none⟩=l[k]? := by
 unfold At at h;simp[World.cell?,h]
theorem Q8 (b k:Nat):(⟨b,0,none⟩:Addr).add k=⟨b,k,none⟩:=by unfold Addr.add;split <;> simp_all
theorem Qt3 (b o k:Nat):(⟨b,o,none⟩:Addr).add k=⟨b,o+k,none⟩:=by unfold Addr.add;split <;> simp_all
theorem Xf (a:Addr) (i j:Nat):(a.add i).add j=a.add (i+j):=by
 unfold Addr.add
 by_cases hi:i=0 <;> by_cases hj:j=0 <;> simp[hi,hj,Nat.add_assoc]
theorem At.one {w:World} {b:Nat} {t:TypeId} {l:List Value} (h:At w b t l) {k:Nat} {v:Value} (hk:nth l k=some v):w.cell? ((⟨b,0,none⟩:Addr).add k)=some v:=by
 rw[Q8,h.cell k,<- Qa1,hk]
theorem At.one0 {w:World} {b:Nat} {t:TypeId} {l:List Value} {v:Value} (h:At w b t (v :: l)):w.cell? (⟨b,0,none⟩:Addr)=some v:=by rw[h.cell 0];rfl
theorem At.all {w:World} {b:Nat} {t:TypeId} {l:List Value} (h:At w b t l):Xp w ⟨b,0,none⟩ l:=fun j v hj=>by rw[Q8,h.cell j,hj]
def Quz (n:Nat):Nat->List (Nat×Value)->(List Value->Prop)->Prop
 | _,[],K=>K []
 | k,(i,v) :: ps,K=>bif Nat.beq i k then(bif Nat.beq (Qg v).length n then Quz n (k+1) ps fun cs=>appK (Qg v) cs K else False) else False
where appK:List Value->List Value->(List Value->Prop)->Prop
 | [],cs,K=>K cs
 | x :: xs,cs,K=>appK xs cs fun r=>K (x :: r)
theorem Q0d:∀ {xs cs:List Value} {K:List Value->Prop},Quz.appK xs cs K->K (xs++cs)
 | [],_,_,h=>h
 | x :: xs,cs,K,h=>Q0d (xs:=xs) (K:=fun r=>K (x :: r)) h
theorem Qqd {n:Nat}:∀ {ps:List (Nat×Value)} {k:Nat} {K:List Value->Prop},Quz n k ps K ->
 ∃ cs,K cs/\cs.length=ps.length*n/\∀ (pre zs:List Value),pre.length=k*n->zs.length=ps.length*n->(n≠0) ->
   Instr.fill (fun i=>some (i*n,n)) (pre++zs).toArray ps=some (pre++cs).toArray
 | [],k,K,h=>⟨[],h,by simp,fun pre zs _ hz _=>by
  have:zs = []:=Zba (by simpa using hz);subst this;rfl⟩
 | (i,v) :: ps,k,K,h=>by
   simp only[Quz] at h;cases h1:Nat.beq i k <;> simp only[h1,cond_true,cond_false] at h
   cases h2:Nat.beq (Qg v).length n <;> simp only[h2,cond_true,cond_false] at h
   have e1:=Zaz h1;have e2:=Zaz h2;subst e1;obtain⟨cs,hK,hl,hf⟩:=Qqd h;refine⟨Qg v++cs,Q0d hK,by simp[hl,e2,Zbv,Zc4],fun pre zs hp hz hn => ?_⟩;have hvs:v.cells.size=n:=by rw[<- e2,<- Qan];simp
   have hzl:zs.length=n+ps.length*n:=by rw[hz];simp[Zbv,Zc4]
   simp only[Instr.fill];rw[if_neg (by simp[hvs,hp];omega)];have:v.cells=(Qg v).toArray:=by rw[<- Qan]
   rw[this,<- Array.foldl_toList];simp only[Array.toList_zipIdx];rw[Qim (Qg v) (pre++zs) (i*n) 0]
   have hset:∀ (vs pre zs:List Value) (k:Nat),pre.length=k->vs.length<=zs.length->Qy2 (pre++zs) k vs=(pre++vs)++zs.drop vs.length:=by
    intro vs
    induction vs with
    | nil=>intro pre zs k _ _;simp[Qy2]
    | cons x vs ih =>
      intro pre zs k hk hle
      cases zs with
      | nil=>simp at hle
      | cons z zs =>
        simp only[Qy2];have:(pre++z :: zs).set k x=(pre ++ [x])++zs:=(by rw[Zb6 _ _ (by omega)];simp[hk]);rw[this,ih (pre ++ [x]) zs (k+1) (by simp[hk]) (by simpa using hle)];simp
   rw[hset (Qg v) pre zs (i*n+0) (by rw[hp];simp) (by rw[e2,hzl];omega)];have:=hf (pre++Qg v) (zs.drop (Qg v).length) (by simp[hp,e2,Zbv]) (by simp[hzl,e2]) hn;rw[this];simp
def Xb6 (P:Program) (T:Tab) (ev:Operand->Option Value) (o:Oper) (w:World) (R:Value->World->Prop):Prop :=
 match o.op with
 | .box t x=>match ev x with
   | some v=>∀ b w1,New w w1 b (.cells (Qg v).toArray t)->R (.pointer (some ⟨b,0,none⟩)) w1
   | none=>False
 | .alloc t=>match Qif T t with
   | some ⟨_,_,_,z⟩=>∀ b w1,New w w1 b (.cells (Qg z).toArray t)->R (.pointer (some ⟨b,0,none⟩)) w1
   | none=>False
 | .buildSlice t len parts=>match Qif T t with
   | some ⟨.slice e n,_,_,_⟩=>bif Nat.beq n 0 then False else match Qif T e with
     | some ⟨_,n',_,z⟩=>bif Nat.beq n' n then bif Nat.ble (len*n) 16777216 then match evP ev parts.toList with
       | some ps=>bif Nat.beq ps.length len then Quz n 0 ps fun cs=>∀ b w1,New w w1 b (.cells cs.toArray e)->R (.slice (some ⟨b,0,none⟩) len len) w1 else False
       | none=>False else False else False
     | none=>False
   | _=>False
 | .makeMap t r=>match r with
   | none=>∀ b w1,New w w1 b (.map #[] 0)->R (.map (some b)) w1
   | some x=>match Qif T t with
     | some ⟨.map _ _,_,_,_⟩=>match ev x with
       | some (.int _ _)=>∀ b w1,New w w1 b (.map #[] 0)->R (.map (some b)) w1
       | _=>False
     | _=>False
 | .makeSlice t l c=>match ev l with
   | some vl=>match ev c with
     | some vc=>Qkj P (Instr.makeSlice t vl vc) w R
     | none=>False
   | none=>False
 | .store t x y=>match ev x with
   | some va=>match ev y with
     | some v=>Qxc P (Instr.storeAt t va v) w R
     | none=>False
   | none=>False
 | .mapUpdate t m k x | .insert t m k x=>match ev m with
   | some vm=>match ev k with
     | some vk=>match ev x with
       | some vx=>Qxc P (Instr.mapUpdate t vm vk vx) w R
       | none=>False
     | none=>False
   | none=>False
 | .mapEntry t m k=>match ev m with
   | some vm=>match ev k with
     | some vk=>Qkj P (Instr.mapEntry t vm vk) w R
     | none=>False
   | none=>False
 | .entryStore t m k x=>match ev m with
   | some vm=>match ev k with
     | some vk=>match ev x with
       | some vx=>Qxc P (Instr.entryStore t vm vk vx) w R
       | none=>False
     | none=>False
   | none=>False
 | .range t x=>match ev x with
   | some v=>Qkj P (Instr.range t v) w R
   | none=>False
 | .next x s=>match ev x with
   | some v=>Qkj P (Instr.next v s o.type) w R
   | none=>False
 | .entry x=>match ev x with
   | some v=>Qkj P (Instr.entry v) w R
   | none=>False
 | .convert s d x=>match ev x with
   | some v=>Qkj P (convert s d v) w R
   | none=>False
 | .call { callee := .builtin .append,args,argTypes }=>match evL ev args.toList with
   | some vs=>Qkj P (Builtin.append_ argTypes o.type vs.toArray) w R
   | none=>False
 | .call { callee := .builtin .copy,args,argTypes }=>match evL ev args.toList with
   | some vs=>Qkj P (Builtin.copy_ argTypes o.type vs.toArray) w R
   | none=>False
 | .call { callee := .builtin .delete,args,argTypes }=>match evL ev args.toList with
   | some vs=>Qkj P (Builtin.delete_ argTypes o.type vs.toArray) w R
   | none=>False
 | .call { callee := .builtin .clear,args,argTypes }=>match evL ev args.toList with
   | some vs=>Qkj P (Builtin.clear_ argTypes o.type vs.toArray) w R
   | none=>False
 | .call { callee := .value f,args,argTypes:=_ }=>match ev f with
   | some (.func (.func g) xs ys)=>match evL ev args.toList with
     | some vs=>match xs.toList with
       | []=>match ys.toList with
         | []=>Cal P g vs w R
         | y :: l=>Cal P g (vs++y :: l) w R
       | x :: l=>Cal P g ((x :: l)++vs++ys.toList) w R
     | none=>False
   | _=>False
 | .call { callee := .invoke r m,args,argTypes:=_ }=>match ev r with
   | some v=>match evL ev args.toList with
     | some vs=>∃ g us,(callMethod v m vs.toArray).run P w = .ok (.enter g us.toArray) w/\Cal P g us w R
     | none=>False
   | none=>False
 | .typeAssert x xt t ok=>match ev x with
   | some v=>Qkj P (Instr.typeAssert v xt t ok) w R
   | none=>False
 | _=>False
section
variable {P:Program} {T:Tab} {ev:Operand->Option Value} {w:World} {R:Value->World->Prop} {a:Act}
theorem Qcb {o:Oper} {K:Act->World->Prop} {Q:Exit->Act->World->Prop} (s:Sem Value) (hop:execOp a.eval o=(do pure (Next.value (<- s)))) (h:Qkj P s w R) (hR:∀ v w',R v w'->K (a.put o.dst v) w'):o.wp P a w K Q:=by
 obtain⟨v,w',hr,hv⟩:=h;unfold Oper.wp;rw[hop];simp only[Sem.run_bind,hr,Result.andThen_ok,Sem.run_pure,Oper.upon];exact hR v w' hv
theorem Qtu {o:Oper} {K:Act->World->Prop} {Q:Exit->Act->World->Prop} (s:Sem Unit) (hop:execOp a.eval o=(do s;pure Next.skip)) (h:Qxc P s w R) (hR:∀ v w',R v w'->K (a.put o.dst v) w'):o.wp P a w K Q:=by
 obtain⟨w',hr,hv⟩:=h;unfold Oper.wp;rw[hop];simp only[Sem.run_bind,hr,Result.andThen_ok,Sem.run_pure,Oper.upon];exact hR _ w' hv
theorem Xg4 {o:Oper} {K:Act->World->Prop} {Q:Exit->Act->World->Prop} (g:FuncId) (args:List Value) (hop:execOp a.eval o=callFunc g args.toArray) (h:Cal P g args w R) (hR:∀ v w',R v w'->K (a.put o.dst v) w'):o.wp P a w K Q:=by
 obtain⟨⟨fn,hf,hn,hb⟩,hc⟩:=h;unfold Oper.wp;rw[hop]
 have hrun:(callFunc g args.toArray).run P w = .ok (.enter g args.toArray) w:=by
  have hn' : fn.name ≠ "runtime.NumGoroutine" := by simpa using hn
  have hb':fn.body≠none:=fun e=>by rw[e] at hb;simp at hb
  simp[callFunc,hf,hn',hb']
 rw[hrun];simp only[Oper.upon];exact hc.mono fun e w' ⟨v,he,hv⟩=>by subst he;exact hR v w' hv
theorem Xd7 {o:Oper} {K:Act->World->Prop} {Q:Exit->Act->World->Prop} (g:FuncId) (args:List Value) (hrun:(execOp a.eval o).run P w = .ok (.enter g args.toArray) w) (h:Cal P g args w R) (hR:∀ v w',R v w'->K (a.put o.dst v) w'):o.wp P a w K Q:=by
 obtain⟨_,hc⟩:=h;unfold Oper.wp;rw[hrun];simp only[Oper.upon];exact hc.mono fun e w' ⟨v,he,hv⟩=>by subst he;exact hR v w' hv
theorem Qns (hT:Qbe P T) (hev:∀ x v,ev x=some v->a.eval x=v) {o:Oper} (h:Xb6 P T ev o w R) {K:Act->World->Prop} {Q:Exit->Act->World->Prop} (hR:∀ v w',R v w'->K (a.put o.dst v) w') :
 o.wp P a w K Q:=by
 unfold Xb6 at h;split at h
 . rename_i t x hop;split at h
   . rename_i v hx;refine Qcb (R:=R) (Instr.box t v) (by simp[execOp,hop,hev _ _ hx]) ⟨_,_,?_,h _ _ ⟨rfl,rfl⟩⟩ hR;have:v.cells=(Qg v).toArray:=by rw[<- Qan]
     simp[Instr.box,newVar,newRow,this]
   . exact h.elim
 . rename_i t hop;split at h
   . rename_i s1 s2 s3 z ht;refine Qcb (R:=R) (Instr.alloc t true (.tuple #[])) (by simp[execOp,hop]) ⟨_,_,?_,h _ _ ⟨rfl,rfl⟩⟩ hR;have:z.cells=(Qg z).toArray:=by rw[<- Qan]
     simp[Instr.alloc,Qlb (hT.get ht),newVar,newRow,this]
   . exact h.elim
 . rename_i t len parts hop;split at h
   . rename_i e n s1 s2 s3 ht;obtain⟨_,d,_,hd,_,hsh,_⟩:=Xm (hT.get ht);obtain⟨rfl,hcs⟩:=Qmv hsh;cases hz:Nat.beq n 0 <;> simp only[hz,cond_true,cond_false] at h
     have hz':=Za3 hz;split at h
     . rename_i sh n' ag z he;cases hnn:Nat.beq n' n <;> simp only[hnn,cond_true,cond_false] at h
       have hnn':=Zaz hnn;subst hnn';cases hle:Nat.ble (len*n') 16777216 <;> simp only[hle,cond_true,cond_false] at h
       have hle':=Zbt hle;obtain⟨ie,_,hie,hde,hze,_,hsz,_⟩:=Xm (hT.get he);split at h
       . rename_i ps hps;cases hpl:Nat.beq ps.length len <;> simp only[hpl,cond_true,cond_false] at h
         have hpl':=Zaz hpl;obtain⟨cs,hK,hl,hf⟩:=Qqd h;refine Qcb (R:=R) (Instr.buildSlice t len (parts.map fun(i,x)=>(i,a.eval x))) (by simp[execOp,hop]) ⟨_,_,?_,hK _ _ ⟨rfl,rfl⟩⟩ hR;have hparts:(parts.map fun(i,x)=>(i,a.eval x)).toList=ps:=(by rw[Array.toList_map];exact Q0r (ρ:=a.eval) hev hps);simp only at hsz hze
         by_cases h0:len=0
         . subst h0;have hps0:ps = []:=Zba hpl';subst hps0;have hcs0:cs = []:=Zba (by simpa using hl);subst hcs0;obtain rfl:parts = #[]:=by simpa using hparts
           simp[Instr.buildSlice,run_underlying hd,sizeOf,typeInfo,hie,Instr.fill,newRow];rw[show (Array.map (fun(_:Nat)=>(default:Value)) (Array.range 0)) = #[] from by apply Zco;simp]
         . have hpos:¬ len*ie.size=0:=(by rw[hsz];simp only[Nat.mul_eq_zero,not_or];exact⟨h0,hz'⟩);refine run_buildSlice w t e len _ cs.toArray ie z hd hie hze (by rw[hsz];omega) hpos ?_;rw[hparts,hsz];have hff:=hf [] ((Array.range (len*n')).map (z.cells[· % z.cells.size]!)).toList (by simp) (by simp[hpl']) hz';rw[Qck];simpa using hff
       . exact h.elim
     . exact h.elim
   . exact h.elim
 . rename_i t r hop;split at h
   . refine Qcb (R:=R) (Instr.makeMap t none) (by simp[execOp,hop]) ⟨_,_,?_,h _ _ ⟨rfl,rfl⟩⟩ hR;simp[Instr.makeMap]
   . rename_i x;split at h
     . rename_i k e s1 s2 s3 ht;obtain⟨_,d,_,hd,_,hsh,_⟩:=Xm (hT.get ht);obtain rfl:=Xii hsh;split at h
       . rename_i kk n hx;refine Qcb (R:=R) (Instr.makeMap t (some (.int kk n))) (by simp[execOp,hop,hev _ _ hx]) ⟨_,_,?_,h _ _ ⟨rfl,rfl⟩⟩ hR;simp[Instr.makeMap,run_underlying hd,asInt,asIntOf]
       . exact h.elim
     . exact h.elim
 . rename_i t l c hop;split at h
   . rename_i vl hl;split at h
     . rename_i vc hc;exact Qcb (R:=R) _ (by simp[execOp,hop,hev _ _ hl,hev _ _ hc]) h hR
     . exact h.elim
   . exact h.elim
 . rename_i t x y hop;split at h
   . rename_i va ha;split at h
     . rename_i v hv;exact Qtu (R:=R) _ (by simp[execOp,hop,hev _ _ ha,hev _ _ hv]) h hR
     . exact h.elim
   . exact h.elim
 . rename_i t m k x hop;split at h
   . rename_i vm hm;split at h
     . rename_i vk hk;split at h
       . rename_i vx hx;exact Qtu (R:=R) _ (by simp[execOp,hop,hev _ _ hm,hev _ _ hk,hev _ _ hx]) h hR
       . exact h.elim
     . exact h.elim
   . exact h.elim
 . rename_i t m k x hop;split at h
   . rename_i vm hm;split at h
     . rename_i vk hk;split at h
       . rename_i vx hx;exact Qtu (R:=R) _ (by simp[execOp,hop,hev _ _ hm,hev _ _ hk,hev _ _ hx]) h hR
       . exact h.elim
     . exact h.elim
   . exact h.elim
 . rename_i t m k hop;split at h
   . rename_i vm hm;split at h
     . rename_i vk hk;exact Qcb (R:=R) _ (by simp[execOp,hop,hev _ _ hm,hev _ _ hk]) h hR
     . exact h.elim
   . exact h.elim
 . rename_i t m k x hop;split at h
   . rename_i vm hm;split at h
     . rename_i vk hk;split at h
       . rename_i vx hx;exact Qtu (R:=R) _ (by simp[execOp,hop,hev _ _ hm,hev _ _ hk,hev _ _ hx]) h hR
       . exact h.elim
     . exact h.elim
   . exact h.elim
 . rename_i t x hop;split at h
   . rename_i v hx;exact Qcb (R:=R) _ (by simp[execOp,hop,hev _ _ hx]) h hR
   . exact h.elim
 . rename_i x s hop;split at h
   . rename_i v hx;exact Qcb (R:=R) _ (by simp[execOp,hop,hev _ _ hx]) h hR
   . exact h.elim
 . rename_i x hop;split at h
   . rename_i v hx;exact Qcb (R:=R) _ (by simp[execOp,hop,hev _ _ hx]) h hR
   . exact h.elim
 . rename_i s d x hop;split at h
   . rename_i v hx;exact Qcb (R:=R) _ (by simp[execOp,hop,hev _ _ hx]) h hR
   . exact h.elim
 . rename_i args argTypes hop;split at h
   . rename_i vs hvs;have e1:args.map a.eval=vs.toArray:=by rw[Qck,Qdx (ρ:=a.eval) hev hvs]
     exact Qcb (R:=R) _ (by simp[execOp,hop,resolve,invoke,builtin,e1]) h hR
   . exact h.elim
 . rename_i args argTypes hop;split at h
   . rename_i vs hvs;have e1:args.map a.eval=vs.toArray:=by rw[Qck,Qdx (ρ:=a.eval) hev hvs]
     exact Qcb (R:=R) _ (by simp[execOp,hop,resolve,invoke,builtin,e1]) h hR
   . exact h.elim
 . rename_i args argTypes hop;split at h
   . rename_i vs hvs;have e1:args.map a.eval=vs.toArray:=by rw[Qck,Qdx (ρ:=a.eval) hev hvs]
     exact Qcb (R:=R) _ (by simp[execOp,hop,resolve,invoke,builtin,e1]) h hR
   . exact h.elim
 . rename_i args argTypes hop;split at h
   . rename_i vs hvs;have e1:args.map a.eval=vs.toArray:=by rw[Qck,Qdx (ρ:=a.eval) hev hvs]
     exact Qcb (R:=R) _ (by simp[execOp,hop,resolve,invoke,builtin,e1]) h hR
   . exact h.elim
 . rename_i f args argTypes hop;split at h
   . rename_i g xs ys hf;split at h
     . rename_i vs hvs;have e1:args.map a.eval=vs.toArray:=by rw[Qck,Qdx (ρ:=a.eval) hev hvs]
       split at h
       . rename_i hxs;have exs:xs = #[]:=by apply Zco;simpa using hxs
         split at h
         . rename_i hys;have eys:ys = #[]:=by apply Zco;simpa using hys
           exact Xg4 (R:=R) g vs (by simp[execOp,hop,resolve,invoke,hev _ _ hf,Deferred.ofValue,e1,exs,eys]) h hR
         . rename_i y l hys;have eys:ys=(y :: l).toArray:=by apply Zco;simpa using hys
           exact Xg4 (R:=R) g (vs++y :: l) (by simp[execOp,hop,resolve,invoke,hev _ _ hf,Deferred.ofValue,e1,exs,eys]) h hR
       . rename_i x l hxs;have exs:xs=(x :: l).toArray:=by apply Zco;simpa using hxs
         obtain⟨yl⟩:=ys;exact Xg4 (R:=R) g ((x :: l)++vs++yl) (by simp[execOp,hop,resolve,invoke,hev _ _ hf,Deferred.ofValue,e1,exs]) h hR
     . exact h.elim
   . exact h.elim
 . rename_i r m args argTypes hop;split at h
   . rename_i v hv;split at h
     . rename_i vs hvs;obtain⟨g,us,hrun,hc⟩:=h;have e1:args.map a.eval=vs.toArray:=by rw[Qck,Qdx (ρ:=a.eval) hev hvs]
       refine Xd7 (R:=R) g us ?_ hc hR;have e2:execOp a.eval o=callMethod v m vs.toArray:=by simp[execOp,hop,resolve,invoke,hev _ _ hv,e1]
       rw[e2];exact hrun
     . exact h.elim
   . exact h.elim
 . rename_i x xt t ok hop;split at h
   . rename_i v hx;exact Qcb (R:=R) _ (by simp[execOp,hop,hev _ _ hx]) h hR
   . exact h.elim
 . exact h.elim
end
def Q83 (ops:List Oper) (Γ:Env) (Δ:Loc) (g:Option (Nat×Bool)) (K:SP->Prop):Prop :=
 match g with
 | none=>K []
 | some (j,b)=>match nth ops j with
   | some oj=>match oj.dst with
     | some t=>match look Γ Δ t with
       | some (q,.bool _)=>K ((t,b) :: q)
       | _=>False
     | none=>False
   | none=>False
def Xf0 (cl:Cl) (w w':World) (Φ:Prop):Prop :=
 match cl with
 | .same=>Φ
 | .ext=>Ext w w'/\Φ
 | .mods S=>Mod S w w'/\Φ
 | .gen R _=>R w w'/\Φ
def Xiw (P:Program) (T:Tab) (N:Nat) (cl:Cl) (p:SP) (o:Oper) (Γ:Env) (Δ:Loc) (G:List Nat) (w:World) (K:World->Env->Loc->List Nat->Prop):Prop :=
 match p with
 | []=>Xb6 P T (evO Γ Δ []) o w fun v w'=>Xf0 cl w w' (Xel N [] o.dst v Γ Δ G (K w'))
 | x :: q=>∃ (ι:Type) (f:ι->Value) (R:ι->World->Prop) (_:ι),Und Γ Δ (x :: q) (Xb6 P T (evO Γ Δ (x :: q)) o w fun v w'=>∃ i,v=f i/\R i w') /\
     ∀ i w',((Hol Γ Δ (x :: q)/\R i w')\/(¬ Hol Γ Δ (x :: q)/\w'=w))->Xf0 cl w w' (Xel N (x :: q) o.dst (f i) Γ Δ G (K w'))
def Qeu (P:Program) (T:Tab) (N:Nat) (cl:Cl) (ops:List Oper):List Oper->Env->Loc->List Nat->World->(Env->Loc->List Nat->World->Prop)->Prop
 | [],Γ,Δ,G,w,K=>K Γ Δ G w
 | o :: rest,Γ,Δ,G,w,K=>Q83 ops Γ Δ o.guard fun p =>
     bif still T o.op then
      Xha P T cl (fun e x=>evO Γ Δ (e++p) x) (Und Γ Δ p) o.op w fun v=>Xel N p o.dst v Γ Δ G fun Γ' Δ' G'=>Qeu P T N cl ops rest Γ' Δ' G' w K
     else Xiw P T N cl p o Γ Δ G w fun w' Γ' Δ' G'=>Qeu P T N cl ops rest Γ' Δ' G' w' K
section region
variable {P:Program} {T:Tab} {N:Nat} {cl:Cl} {ops:List Oper}
theorem Xv {Γ:Env} {Δ:Loc} {G:List Nat} {a:Act} (ha:Ag N a Γ Δ G) {o:Oper} {K:SP->Prop} (h:Q83 ops Γ Δ o.guard K) :
 ∃ p,K p/\Region.wanted o (yielded ops.toArray a.tmps)=cnd Γ Δ p:=by
 unfold Q83 at h;split at h
 . rename_i hg;exact⟨[],h,by simp[Region.wanted,hg,cnd]⟩
 . rename_i j b hg;split at h
   . rename_i oj hj;rw[Qa1] at hj;split at h
     . rename_i t ht;split at h
       . rename_i q c hl;refine⟨_,h,?_⟩;have hlk:=ha.look hl;simp only[Region.wanted,hg,yielded,List.getElem?_toArray,hj,Option.bind_some,ht,hlk,cnd,hl]
         by_cases hq:cnd Γ Δ q=true
         . simp[hq]
         . simp[hq,undef]
       . exact h.elim
     . exact h.elim
   . exact h.elim
theorem Ag.done {a:Act} {Γ:Env} {Δ:Loc} {G:List Nat} (h:Ag N a Γ Δ G):Ag N a Γ [] [] :=
 ⟨h.defers,h.size,h.env,fun t q v hl=>by simp[Qw7] at hl,fun t q v hl=>by simp[Qw7] at hl⟩
theorem Xfj {Γ:Env} {Δ:Loc} {p:SP} {t:Nat} {b:Bool} {d:Bool} (hl:evO Γ Δ p (.tmp t)=some (.bool d)) (hd:d=b) (hc:cnd Γ Δ p=true):cnd Γ Δ ((t,b) :: p)=true:=by
 simp only[evO] at hl;simp only[cnd];split at hl
 . rename_i q v hlk;cases hs:suf q p <;> simp[hs] at hl
   subst hl;simp[hlk,hd,hc]
 . cases hl
theorem still_step (hT:Qbe P T) {Γ:Env} {Δ:Loc} {G:List Nat} {a:Act} {w:World} (ha:Ag N a Γ Δ G) {p:SP} {o:Oper} (hw:Region.wanted o (yielded ops.toArray a.tmps)=cnd Γ Δ p)
 {K:Env->Loc->List Nat->Prop} (h:Xha P T cl (fun e x=>evO Γ Δ (e++p) x) (Und Γ Δ p) o.op w fun v=>Xel N p o.dst v Γ Δ G K) :
 ∃ v Γ' Δ' G',YieldsIf P ops.toArray (cl.rel w) o v a/\Ag N (a.put o.dst v) Γ' Δ' G'/\K Γ' Δ' G':=by
 obtain⟨v,hK,hr⟩:=Q37 (a:=a) (ev:=fun e x=>evO Γ Δ (e++p) x) (c:=cnd Γ Δ p=true) hT (fun hc x v hx=>ha.ev (p:=p) hx hc)
  (fun hc t b d x v ht hx hd=>ha.ev (p:=(t,b) :: p) hx (Xfj (p:=p) ht hd hc)) (fun Φ hu hc=>(Qz3 Γ Δ Φ p).1 hu hc) h
 obtain⟨Γ',Δ',G',hk,hag⟩:=Qh0 hK ha
 by_cases hc:cnd Γ Δ p=true
 . rw[if_pos hc] at hag;exact⟨v,Γ',Δ',G',.inl ⟨hw.trans hc,hr hc⟩,hag,hk⟩
 . rw[if_neg hc] at hag;exact⟨undef,Γ',Δ',G',.inr ⟨by rw[hw];simpa using hc,rfl⟩,hag,hk⟩
theorem Qn7 {w w':World} {Φ:Prop} (h:Xf0 cl w w' Φ):(cl = .same\/cl.rel w w')/\Φ:=by
 cases cl with
 | same=>exact⟨.inl rfl,h⟩
 | ext=>exact⟨.inr h.1,h.2⟩
 | mods S=>exact⟨.inr h.1,h.2⟩
 | gen R hh=>exact⟨.inr h.1,h.2⟩
theorem Qbq (hT:Qbe P T) {Γ:Env} {Δ:Loc} {G:List Nat} {a:Act} {w:World} (ha:Ag N a Γ Δ G) {p:SP} {o:Oper} (hw:Region.wanted o (yielded ops.toArray a.tmps)=cnd Γ Δ p)
 {K:World->Env->Loc->List Nat->Prop} {Q:Exit->Act->World->Prop}
 (h:Xiw P T N cl p o Γ Δ G w K)
 {M:Act->World->Prop} (hM:∀ a' w' Γ' Δ' G',(cl = .same\/cl.rel w w')->Ag N a' Γ' Δ' G'->K w' Γ' Δ' G'->M a' w') :
 if Region.wanted o (yielded ops.toArray a.tmps) then o.wp P a w M Q\/(o.asks P a w/\LetsOut Q) else M (a.put o.dst undef) w:=by
 rw[hw];unfold Xiw at h
 cases p with
 | nil =>
   rw[if_pos (by simp[cnd])];refine .inl (Qns hT (fun x v hx=>ha.ev hx (by simp[cnd])) h fun v w' hv => ?_);obtain⟨h1,h2⟩:=Qn7 hv;obtain⟨Γ',Δ',G',hk,hag⟩:=Qh0 h2 ha;rw[if_pos (by simp[cnd])] at hag;exact hM _ _ _ _ _ h1 hag hk
 | cons x q =>
   obtain⟨ι,f,R,i0,hu,hK⟩:=h
   by_cases hc:cnd Γ Δ (x :: q)=true
   . rw[if_pos hc];refine .inl (Qns hT (fun x v hx=>ha.ev hx hc) ((Qz3 _ _ _ _).1 hu hc) fun v w' hv => ?_);obtain⟨i,rfl,hv⟩:=hv;obtain⟨h1,h2⟩:=Qn7 (hK i w' (.inl ⟨(Qx3 _ _ _).2 hc,hv⟩));obtain⟨Γ',Δ',G',hk,hag⟩:=Qh0 h2 ha;rw[if_pos hc] at hag;exact hM _ _ _ _ _ h1 hag hk
   . rw[if_neg hc];obtain⟨h1,h2⟩:=Qn7 (hK i0 w (.inr ⟨fun hh=>hc ((Qx3 _ _ _).1 hh),rfl⟩));obtain⟨Γ',Δ',G',hk,hag⟩:=Qh0 h2 ha;rw[if_neg hc] at hag;exact hM _ _ _ _ _ h1 hag hk
theorem Qon (hT:Qbe P T) {K:Env->Loc->List Nat->World->Prop} {Q:Exit->Act->World->Prop} (hQ:∀ a Γ Δ G w,Ag N a Γ Δ G->K Γ Δ G w->Q .normal a w) :
 ∀ (rest:List Oper) (k:Nat),(∀ j,rest[j]? = ops[k+j]?)->∀ (Γ:Env) (Δ:Loc) (G:List Nat) (a:Act) (w:World),Ag N a Γ Δ G->Qeu P T N .same ops rest Γ Δ G w K ->
   wpOps P ops.toArray Q (List.range' k rest.length) a w
 | [],k,_,Γ,Δ,G,a,w,ha,h=>by
   simp only[Zam,List.range'_zero,wpOps];exact hQ a Γ Δ G w ha h
 | o :: rest,k,hr,Γ,Δ,G,a,w,ha,h=>by
   have ho:ops[k]? = some o:=by have:=hr 0;simpa using this.symm
   have hr':∀ j,rest[j]? = ops[k+1+j]? := fun j=>(by have:=hr (j+1);rw[show k+1+j=k+(j+1) by omega,<- this];rfl)
   simp only[Z8,List.range'_succ];rw[wpOps_cons];simp only[Qeu] at h;obtain⟨p,hp,hw⟩:=Xv ha h;unfold wpOp;simp only[List.getElem?_toArray,ho];cases hs:still T o.op <;> simp only[hs,cond_true,cond_false] at hp
   . exact Qbq (cl := .same) hT ha hw hp fun a' w' Γ' Δ' G' _ hag hk=>Qon hT hQ rest (k+1) hr' Γ' Δ' G' a' w' hag hk
   . obtain⟨v,Γ',Δ',G',hy,hag,hk⟩:=still_step hT ha hw hp;have hgo:=Qon hT hQ rest (k+1) hr' Γ' Δ' G' _ w hag hk;have:=YieldsIf.wpOp (Q:=Q) (i:=k) (ops:=ops.toArray) (by simpa using ho) hy (w:=w) (Cl.refl _ _) hgo;unfold wpOp at this;simpa only[List.getElem?_toArray,ho] using this
end region
def Qhe (ops:List Oper):List Nat->List Oper
 | [] => []
 | i :: r=>match nth ops i with
   | some o=>o :: Qhe ops r
   | none => []
def Q0p (ops:Array Oper) (i:Nat):List Nat :=
 (List.range ops.size).foldl (fun D j=>bif ((ops[j]?).map fun o=>o.after.any fun e=>Region.binds .any e&&(e.on == i||D.contains e.on)).getD false then j :: D else D) []
def Xg1 (ops:Array Oper) (D:List Nat) (i:Nat):Bool :=
 D.all fun d=>match ops[d]? with
  | some o=>o.after.any fun e=>Region.binds .any e&&(e.on == i||D.contains e.on)
  | none=>false
def Qqn (ops:Array Oper) (B:List Nat) (listed:Array Bool) (i:Nat):Bool :=
 !B.contains i&&(let D:=Q0p ops i;B.all (D.contains ·)&&Xg1 ops D i&&D.all fun d => !listed.getD d false)
def Qcl (T:Tab) (ops:Array Oper) (B:List Nat):List Nat->Array Bool->Bool
 | [],listed=>canonB ops B listed
 | i :: r,listed=>match ops[i]? with
   | none=>false
   | some o=>(bif still T o.op then(Region.ready .any ops listed).contains i&&Region.free .any ops listed i&&Qqn ops B listed i else Region.ready .any ops listed == [i] && !B.contains i)&&Qcl T ops B r (listed.setIfInBounds i true)
where canonB (ops:Array Oper):List Nat->Array Bool->Bool
 | [],listed=>(Region.ready .any ops listed).isEmpty
 | i :: r,listed=>(ops[i]?).isSome&&Region.ready .any ops listed == [i]&&canonB ops r (listed.setIfInBounds i true)
def Q6p (T:Tab) (ops:Array Oper) (A B:List Nat):Bool:=Region.noSelect ops&&(A.length+B.length == ops.size)&&Qcl T ops B A (Array.replicate ops.size false)
section
variable {P:Program} {T:Tab} {N:Nat} {cl:Cl} {ops:List Oper}
def wpT (P:Program) (ops:Array Oper) (Q:Exit->Act->World->Prop) (S:Array Bool->World->Prop):Nat->Array Bool->Act->World->Prop
 | 0,listed,a,w=>Region.ready .any ops listed = []/\Q .normal a w
 | fuel+1,listed,a,w =>
   (Region.ready .any ops listed = []->Q .normal a w) /\
   ∀ i∈Region.ready .any ops listed,wpOp P ops Q i (fun a' w'=>S (listed.setIfInBounds i true) w'/\wpT P ops Q S fuel (listed.setIfInBounds i true) a' w') a w
theorem Qdq {ops:Array Oper} {Q:Exit->Act->World->Prop} {S:Array Bool->World->Prop}:∀ (fuel:Nat) (listed:Array Bool) (a:Act) (w:World),wpT P ops Q S fuel listed a w->wpAny P .any ops Q fuel listed a w
 | 0,_,_,_,h=>h
 | fuel+1,_,_,_,h=>⟨h.1,fun i hi=>wpOp_mono (fun a' w' h'=>Qdq fuel _ a' w' h'.2) (h.2 i hi)⟩
theorem Qcj {ops:Array Oper} {Q:Exit->Act->World->Prop} {S S':Array Bool->World->Prop} (h:∀ L w,S' L w->S L w) :
 ∀ (fuel:Nat) (listed:Array Bool) (a:Act) (w:World),wpT P ops Q S' fuel listed a w->wpT P ops Q S fuel listed a w
 | 0,_,_,_,hh=>hh
 | fuel+1,_,_,_,hh=>⟨hh.1,fun i hi=>wpOp_mono (fun a' w' h'=>⟨h _ _ h'.1,Qcj h fuel _ a' w' h'.2⟩) (hh.2 i hi)⟩
def noneOf (B:List Nat) (L:Array Bool):Prop:=∀ j∈B,L.getD j false=false
theorem Qbk {B:List Nat} {L:Array Bool} {i:Nat} (h:noneOf B L) (hi:i∉B):noneOf B (L.setIfInBounds i true):=fun j hj=>by
 have hne:i≠j:=fun e=>hi (by rw[e];exact hj)
 rw[getD_set_ne false hne];exact h j hj
theorem Qpi {ops:Array Oper} {Q:Exit->Act->World->Prop} {B D:List Nat} {C:World->Prop} {i:Nat} {oi:Oper} {v:Value} (hi:ops[i]? = some oi) (hsel:∀ (j:Nat) (o:Oper) cs b,ops[j]? = some o->o.op ≠ .select cs b)
 (hQ:∀ c a w,Q (.panic c) (a.put oi.dst v) w->Q (.panic c) a w) (hiB:i∉B) (hBD:∀ j∈B,j∈D)
 (hD:∀ d∈D,∀ od,ops[d]? = some od->∃ e∈od.after,Region.binds .any e=true/\(e.on=i\/e.on∈D)) :
 ∀ (fuel:Nat) (listed:Array Bool) (a:Act) (w:World),
   (∀ j oj,ops[j]? = some oj->j≠i->listed.getD j true=false->(∀ e∈oj.after,Region.binds .any e=true->e.on≠i)->oi.apart ops oj=true) ->
   i∈Region.ready .any ops listed->noneOf D listed->YieldsIf P ops C oi v a->C w ->
   wpT P ops Q (fun L w=>noneOf B L->C w) fuel (listed.setIfInBounds i true) (a.put oi.dst v) w->wpT P ops Q (fun L w=>noneOf B L->C w) (fuel+1) listed a w:=by
 intro fuel
 induction fuel with
 | zero =>
   intro listed a w _ hr hN hy hC H;refine⟨fun h=>(by rw[h] at hr;cases hr),fun j hj => ?_⟩
   by_cases hji:j=i
   . subst hji;exact hy.wpOp hi hC ⟨fun _=>hC,H⟩
   . have:=ready_mono hj hji;rw[H.1] at this;cases this
 | succ fuel ih =>
   intro listed a w hfree hr hN hy hC H;refine⟨fun h=>(by rw[h] at hr;cases hr),fun j hj => ?_⟩
   by_cases hji:j=i
   . subst hji;exact hy.wpOp hi hC ⟨fun _=>hC,H⟩
   . have h1:=H.2 j (ready_mono hj hji);obtain⟨hjun,oj,hoj,hall⟩:=mem_ready.1 hj
     have hil:listed.getD i false=false:=by
      have h0:=(mem_ready.1 hr).1;rcases Zb5 i listed.size with h' | h'
      . simp[h'] at h0 ⊢;exact h0
      . simp[Zbp h']
     have hnot:∀ e∈oj.after,Region.binds .any e=true->e.on≠i:=fun e he hb heq=>(by have h1:=hall e he hb;rw[heq,hil] at h1;cases h1)
     have hjD:j∉D:=fun hjD=>by
      obtain⟨e,he,hb,hon⟩:=hD j hjD oj hoj;rcases hon with hon | hon
      . exact hnot e he hb hon
      . have:=hall e he hb;rw[hN _ hon] at this;cases this
     have hjB:j∉B:=fun h=>hjD (hBD j h)
     have hnB:noneOf B ((listed.setIfInBounds i true).setIfInBounds j true):=Qbk (Qbk (fun k hk=>hN k (hBD k hk)) hiB) hjB;have h2:=wpOp_putIf (S:=C) hoj (hfree j oj hoj hji hjun hnot) (fun cs b=>hsel i oi cs b hi) (fun cs b=>hsel j oj cs b hoj) hQ hy h1
     have hfree':∀ k ok,ops[k]? = some ok->k≠i->(listed.setIfInBounds j true).getD k true=false ->
      (∀ e∈ok.after,Region.binds .any e=true->e.on≠i)->oi.apart ops ok=true:=fun k ok hk hki hun hno=>by
      refine hfree k ok hk hki ?_ hno
      by_cases hjk:j=k
      . subst hjk;exact hjun
      . rw[getD_set_ne true hjk] at hun;exact hun
     refine wpOp_mono (fun a' w' h3 => ?_) h2;have hC':C w':=h3.2.1 hnB;refine⟨fun _=>hC',ih (listed.setIfInBounds j true) a' w' hfree' (ready_mono hr (Ne.symm hji)) (Qbk hN hjD) h3.1 hC' ?_⟩;rw[Array.setIfInBounds_comm _ _ hji];exact h3.2.2
theorem Qk1 (hT:Qbe P T) {K:Env->Loc->List Nat->World->Prop} {Q:Exit->Act->World->Prop} (hQ:∀ a Γ Δ G w,Ag N a Γ Δ G->K Γ Δ G w->Q .normal a w) {B0:List Nat} {C:World->Prop} :
 ∀ (B:List Nat) (listed:Array Bool) (Γ:Env) (Δ:Loc) (G:List Nat) (a:Act) (w:World),Qcl.canonB ops.toArray B listed=true->(∀ j∈B,j∈B0)->listed.size=ops.length->Ag N a Γ Δ G->Qeu P T N .same ops (Qhe ops B) Γ Δ G w K ->
   wpT P ops.toArray Q (fun L w=>noneOf B0 L->C w) B.length listed a w
 | [],listed,Γ,Δ,G,a,w,hc,_,_,ha,h=>by
   simp only[Qcl.canonB,List.isEmpty_iff] at hc;exact⟨hc,hQ a Γ Δ G w ha h⟩
 | i :: B,listed,Γ,Δ,G,a,w,hc,hB,hls,ha,h=>by
   simp only[Qcl.canonB,Zl] at hc;obtain⟨⟨hc0,hc1⟩,hc2⟩:=hc;obtain⟨o,ho⟩:=Zca.1 hc0;have ho':ops[i]? = some o:=by simpa using ho
   have hr:Region.ready .any ops.toArray listed = [i]:=by simpa using hc1
   simp only[Qhe,Qa1,ho'] at h;simp only[Qeu] at h;obtain⟨p,hp1,hw⟩:=Xv ha h;have hlt:i<listed.size:=by rw[hls];exact(Zi.1 ho').1
   have hS:∀ w',noneOf B0 (listed.setIfInBounds i true)->C w':=fun w' hn=>(by have:=hn i (hB i (by simp));simp[hlt] at this)
   refine⟨fun h0=>(by rw[hr] at h0;cases h0),fun j hj => ?_⟩;rw[hr] at hj;obtain rfl:j=i:=by simpa using hj
   cases hs:still T o.op <;> simp only[hs,cond_true,cond_false] at hp1
   . have:=Qbq (Q:=Q) (cl := .same) hT ha hw hp1 (M:=fun a' w'=>(noneOf B0 (listed.setIfInBounds j true)->C w')/\wpT P ops.toArray Q (fun L w=>noneOf B0 L->C w) B.length (listed.setIfInBounds j true) a' w')
      fun a' w' Γ' Δ' G' _ hag hk=>⟨hS w',Qk1 hT hQ B _ Γ' Δ' G' a' w' hc2 (fun k hk=>hB k (by simp[hk])) (by simpa using hls) hag hk⟩
     unfold wpOp;simpa only[ho] using this
   . obtain⟨v,Γ',Δ',G',hy,hag,hk⟩:=still_step hT ha hw hp1;have hgo:=Qk1 hT hQ (B0:=B0) (C:=C) B (listed.setIfInBounds j true) Γ' Δ' G' _ w hc2 (fun k hk=>hB k (by simp[hk])) (by simpa using hls) hag hk;exact YieldsIf.wpOp (Q:=Q) (i:=j) (ops:=ops.toArray) ho hy (w:=w) (Cl.refl _ _) ⟨hS w,hgo⟩
theorem Qom (hT:Qbe P T) (hsel:Region.noSelect ops.toArray=true) (B:List Nat) {K:Env->Loc->List Nat->World->Prop} {Q:Exit->Act->World->Prop} (hQ:∀ a Γ Δ G w,Ag N a Γ Δ G->K Γ Δ G w->Q .normal a w) (hp:∀ c a w,¬ Q (.panic c) a w) :
 ∀ (ord:List Nat) (listed:Array Bool) (Γ:Env) (Δ:Loc) (G:List Nat) (a:Act) (w:World),Qcl T ops.toArray B ord listed=true->listed.size=ops.length->Ag N a Γ Δ G ->
   Qeu P T N cl ops (Qhe ops ord) Γ Δ G w (fun Γ' Δ' G' w'=>Qeu P T N .same ops (Qhe ops B) Γ' Δ' G' w' K) ->
   (cl = .same->∀ i∈ord,∀ o,ops[i]? = some o->still T o.op=true) ->
   wpT P ops.toArray Q (fun L w'=>noneOf B L->cl.rel w w') (ord.length+B.length) listed a w
 | [],listed,Γ,Δ,G,a,w,hc,hls,ha,h,_=>by
   simp only[Qcl] at hc;simp only[Zam,Zbg];exact Qk1 hT hQ B listed Γ Δ G a w hc (fun _ h=>h) hls ha h
 | i :: ord,listed,Γ,Δ,G,a,w,hc,hls,ha,h,hsame=>by
   simp only[Qcl] at hc;rw[show (i :: ord).length+B.length=(ord.length+B.length)+1 by simp;omega]
   cases ho:ops.toArray[i]? with
   | none=>rw[ho] at hc;simp at hc
   | some o =>
     rw[ho] at hc;simp only[Zl] at hc;obtain⟨hc1,hc2⟩:=hc;have ho':ops[i]? = some o:=by simpa using ho
     have hsame':cl = .same->∀ i∈ord,∀ o,ops[i]? = some o->still T o.op=true:=fun e j hj o hjo=>hsame e j (by simp[hj]) o hjo
     simp only[Qhe,Qa1,ho'] at h;simp only[Qeu] at h;obtain⟨p,hp1,hw⟩:=Xv ha h;cases hs:still T o.op <;> simp only[hs,cond_true,cond_false] at hp1 hc1
     . have hns:cl ≠ .same:=fun e=>by have:=hsame e i (by simp) o ho';rw[hs] at this;cases this
       simp only[Zl] at hc1;have hr:Region.ready .any ops.toArray listed = [i]:=by simpa using hc1.1
       refine⟨fun h0=>(by rw[hr] at h0;cases h0),fun j hj => ?_⟩;rw[hr] at hj;obtain rfl:j=i:=by simpa using hj
       have:=Qbq (Q:=Q) hT ha hw hp1 (M:=fun a' w'=>(noneOf B (listed.setIfInBounds j true)->cl.rel w w')/\wpT P ops.toArray Q (fun L w'=>noneOf B L->cl.rel w w') (ord.length+B.length) (listed.setIfInBounds j true) a' w')
        fun a' w' Γ' Δ' G' hrel hag hk=>by
         have hrel':=hrel.resolve_left hns;exact⟨fun _=>hrel',Qcj (fun L w'' hw'' hn=>cl.trans hrel' (hw'' hn)) _ _ _ _ (Qom hT hsel B hQ hp ord _ Γ' Δ' G' a' w' hc2 (by simpa using hls) hag hk hsame')⟩
       unfold wpOp;simpa only[ho] using this
     . obtain⟨v,Γ',Δ',G',hy,hag,hk⟩:=still_step hT ha hw hp1;simp only[Zl] at hc1;obtain⟨⟨hcr,hcf⟩,hcl⟩:=hc1;simp only[Qqn,Zl,Zai] at hcl;obtain⟨hcl1,⟨hcl2,hcl3⟩,hcl4⟩:=hcl
       refine Qpi (B:=B) (D:=Q0p ops.toArray i) (C:=cl.rel w) ho (Region.noSelect_spec hsel) (fun c a w hh=>(hp _ _ _ hh).elim) (by simpa using hcl1)
        (fun j hj=>by have:=Zaf.1 hcl2 j hj;simpa using this) ?_ _ listed a w (Region.free_spec ho hcf) (by simpa using hcr)
        (fun d hd=>by have:=Zaf.1 hcl4 d hd;simpa using this) hy (Cl.refl _ _) (Qom hT hsel B hQ hp ord _ Γ' Δ' G' _ w hc2 (by simpa using hls) hag hk hsame')
       intro d hd od hod;have:=Zaf.1 hcl3 d hd;rw[hod] at this;obtain⟨e,he,hb⟩:=Array.any_eq_true'.1 this;simp only[Zl,Zbi,beq_iff_eq,List.contains_eq_mem,decide_eq_true_eq] at hb;exact⟨e,he,hb.1,hb.2⟩
end
abbrev KN:=Env->World->Prop
abbrev KE:=List (Nat×(Env->World->Prop))
def Qxy:List (Nat×(Env->World->Prop))->Nat->Option (Env->World->Prop)
 | [],_=>none
 | (t,k) :: l,s=>bif Nat.beq t s then some k else Qxy l s
def toQ (N:Nat) (kn:KN) (ex:KE) (rt:KN):Exit->Act->World->Prop
 | .normal,a,w=>∃ Γ,Ag N a Γ [] []/\kn Γ w
 | .exit id,a,w=>∃ Γ k,Qxy ex id=some k/\Ag N a Γ [] []/\k Γ w
 | .ret,a,w=>∃ Γ,Ag N a Γ [] []/\rt Γ w
 | _,_,_=>False
@[irreducible] def SemC (P:Program) (N:Nat) (c:Code) (Γ:Env) (w:World) (kn:KN) (ex:KE) (rt:KN):Prop:=∀ a,Ag N a Γ [] []->c.wp P (toQ N kn ex rt) a w
def exs (id:Nat):Code->Nat
 | .seq a b=>exs id a+exs id b
 | .cond _ a b=>exs id a+exs id b
 | .block _ c=>exs id c
 | .loop c=>exs id c
 | .exit j=>bif Nat.beq id j then 1 else 0
 | _=>0
def nrm:Code->Nat
 | .seq a b=>nrm a*nrm b
 | .cond _ a b=>nrm a+nrm b
 | .block id c=>nrm c+exs id c
 | .loop _=>0
 | .exit _=>0
 | .ret=>0
 | .goto _=>0
 | _=>1
def vc (P:Program) (T:Tab) (N:Nat):Code->Env->World->KN->KE->KN->Prop
 | .skip,Γ,w,kn,ex,rt=>kn Γ w
 | .label _,Γ,w,kn,ex,rt=>kn Γ w
 | .region id ops draw,Γ,w,kn,ex,rt=>bif draw then SemC P N (.region id ops true) Γ w kn ex rt else Qeu P T N .same ops.toList ops.toList Γ [] [] w fun Γ' _ _ w'=>kn Γ' w'
 | .seq x y,Γ,w,kn,ex,rt=>bif Nat.ble 2 (nrm x) then SemC P N (.seq x y) Γ w kn ex rt else vc P T N x Γ w (fun Γ' w'=>vc P T N y Γ' w' kn ex rt) ex rt
 | .cond c x y,Γ,w,kn,ex,rt=>match evO Γ [] [] c with
   | some (.bool b)=>(b=true->vc P T N x Γ w kn ex rt)/\(b=false->vc P T N y Γ w kn ex rt)
   | _=>False
 | .block id c,Γ,w,kn,ex,rt=>vc P T N c Γ w kn ((id,kn) :: ex) rt
 | .loop c,Γ,w,kn,ex,rt=>SemC P N (.loop c) Γ w kn ex rt
 | .exit id,Γ,w,kn,ex,rt=>match Qxy ex id with
   | some k=>k Γ w
   | none=>False
 | .ret,Γ,w,kn,ex,rt=>rt Γ w
 | .scope c,Γ,w,kn,ex,rt=>SemC P N (.scope c) Γ w kn ex rt
 | .rangeFunc f ps x y,Γ,w,kn,ex,rt=>SemC P N (.rangeFunc f ps x y) Γ w kn ex rt
 | .goto _,_,_,_,_,_=>False
 | .refuse _,_,_,_,_,_=>False
section
variable {P:Program} {T:Tab} {N:Nat}
theorem Q3a {t s:Nat} {k:Env->World->Prop} {l:List (Nat×(Env->World->Prop))}:Qxy ((t,k) :: l) s=if t=s then some k else Qxy l s:=by
 simp only[Qxy]
 by_cases h:t=s
 . subst h;simp
 . have:Nat.beq t s=false:=by rw[<- Zad];exact fun e=>h (Zaz e)
   simp[this,h]
theorem Qhj (hT:Qbe P T):∀ (c:Code) {Γ:Env} {w:World} {kn:KN} {ex:KE} {rt:KN},vc P T N c Γ w kn ex rt->SemC P N c Γ w kn ex rt
 | .skip,Γ,w,kn,ex,rt,h=>by unfold SemC;exact fun a ha=>wp_skip ⟨Γ,ha,h⟩
 | .label _,Γ,w,kn,ex,rt,h=>by unfold SemC;exact fun a ha=>wp_label ⟨Γ,ha,h⟩
 | .region id ops draw,Γ,w,kn,ex,rt,h=>by
   cases draw with
   | true=>exact h
   | false =>
     unfold SemC;intro a ha;have h':Qeu P T N .same ops.toList ops.toList Γ [] [] w (fun Γ' _ _ w'=>kn Γ' w'):=h;refine wp_region ?_;have:=Qon (Q:=toQ N kn ex rt) hT (fun a Γ Δ G w hag hk=>⟨Γ,hag.done,hk⟩) ops.toList 0 (fun j=>by simp) Γ [] [] a w ha h';simpa [List.range_eq_range'] using this
 | .seq x y,Γ,w,kn,ex,rt,h=>by
   simp only[vc] at h;cases hj:Nat.ble 2 (nrm x) <;> simp only[hj,cond_true,cond_false] at h
   case true=>exact h
   unfold SemC;intro a ha;refine wp_seq ?_;have hx:=Qhj hT x (kn:=fun Γ' w'=>vc P T N y Γ' w' kn ex rt) (ex:=ex) (rt:=rt) h;unfold SemC at hx;refine wp_mono (hx a ha) fun e a' w' hq => ?_
   cases e with
   | normal =>
     obtain⟨Γ',hag,hv⟩:=hq;have hy:=Qhj hT y hv;unfold SemC at hy;exact hy a' hag
   | exit id=>exact hq
   | ret=>exact hq
   | goto l=>exact hq
   | panic c=>exact hq
   | outgrown=>exact hq
 | .cond c x y,Γ,w,kn,ex,rt,h=>by
   unfold SemC;intro a ha;simp only[vc] at h;split at h
   . rename_i b hb;have hc:a.eval c = .bool b:=ha.ev hb (by simp[cnd]);refine wp_cond_split hc (fun e => ?_) (fun e => ?_)
     . have:=Qhj hT x (h.1 e);unfold SemC at this;exact this a ha
     . have:=Qhj hT y (h.2 e);unfold SemC at this;exact this a ha
   . exact h.elim
 | .block id c,Γ,w,kn,ex,rt,h=>by
   unfold SemC;intro a ha;refine wp_block ?_;have hc:=Qhj hT c (kn:=kn) (ex:=(id,kn) :: ex) (rt:=rt) h;unfold SemC at hc;refine wp_mono (hc a ha) fun e a' w' hq => ?_
   cases e with
   | normal=>exact hq
   | exit id' =>
     obtain⟨Γ',k,hk,hag,hkk⟩:=hq;rw[Q3a] at hk;simp only[Exit.inBlock]
     by_cases hid:id'=id
     . rw[if_pos hid];rw[if_pos hid.symm] at hk;obtain rfl:kn=k:=by simpa using hk
       exact⟨Γ',hag,hkk⟩
     . rw[if_neg hid];rw[if_neg (fun e=>hid e.symm)] at hk;exact⟨Γ',k,hk,hag,hkk⟩
   | ret=>exact hq
   | goto l=>exact hq
   | panic c=>exact hq
   | outgrown=>exact hq
 | .loop c,Γ,w,kn,ex,rt,h=>h
 | .exit id,Γ,w,kn,ex,rt,h=>by
   unfold SemC;intro a ha;simp only[vc] at h;split at h
   . rename_i k hk;exact wp_exit ⟨Γ,k,hk,ha,h⟩
   . exact h.elim
 | .ret,Γ,w,kn,ex,rt,h=>by unfold SemC;exact fun a ha=>wp_ret ⟨Γ,ha,h⟩
 | .scope c,Γ,w,kn,ex,rt,h=>h
 | .rangeFunc f ps x y,Γ,w,kn,ex,rt,h=>h
 | .goto _,_,_,_,_,_,h=>h.elim
 | .refuse _,_,_,_,_,_,h=>h.elim
theorem Qm (cl:Cl) (A B:List Nat) (hT:Qbe P T) (hm:P.follows .mixedOrders=true) {id:Nat} {ops:Array Oper} {Γ:Env} {w:World} {kn:KN} {ex:KE} {rt:KN} (hc:Q6p T ops A B=true)
 (hs:cl = .same->A.all (fun i=>match ops[i]? with | some o=>still T o.op | none=>true)=true)
 (h:Qeu P T N cl ops.toList (Qhe ops.toList A) Γ [] [] w.drew fun Γ' Δ' G' w'=>Qeu P T N .same ops.toList (Qhe ops.toList B) Γ' Δ' G' w' fun Γ'' _ _ w''=>kn Γ'' w''):SemC P N (.region id ops true) Γ w kn ex rt:=by
 unfold SemC;intro a ha;simp only[Q6p,Zl,beq_iff_eq] at hc;obtain⟨⟨h1,h2⟩,h3⟩:=hc
 have:=Qom (ops:=ops.toList) (Q:=toQ N kn ex rt) hT h1 B (fun a Γ Δ G w hag hk=>⟨Γ,hag.done,hk⟩) (fun c a w hq=>hq) A (Array.replicate ops.size false) Γ [] [] a w.drew h3 (by simp) ha h
  (fun e i hi o hio=>by
   have:=Zaf.1 (hs e) i hi;have hio':ops[i]? = some o:=by simpa using hio
   simpa [hio'] using this)
 rw[h2] at this;exact wp_region_any hm (Qdq _ _ _ _ this)
def Sub:Env->Env->Prop
 | [],_=>True
 | (t,v) :: r,Γ=>get Γ t=some v/\Sub r Γ
theorem Sub.get:∀ {E Γ:Env},Sub E Γ->∀ {t v},Se.get E t=some v->Se.get Γ t=some v
 | [],_,_,_,_,h=>by simp[Se.get] at h
 | (s,u) :: E,Γ,hs,t,v,h=>by
   rw[Qmp] at h
   by_cases e:s=t
   . rw[if_pos e] at h;obtain rfl:u=v:=by simpa using h
     rw[<- e];exact hs.1
   . rw[if_neg e] at h;exact Sub.get hs.2 h
theorem Ag.sub {a:Act} {E Γ:Env} (h:Ag N a Γ [] []) (hs:Sub E Γ):Ag N a E [] [] :=
 ⟨h.defers,h.size,fun t v ht=>h.env t v (hs.get ht),fun t q v hl=>by simp[Qw7] at hl,fun t q v hl=>by simp[Qw7] at hl⟩
theorem Qh (hT:Qbe P T) {ι:Type} (I:ι->World->Prop) (E:ι->Env) (μ:ι->Nat) (i0:ι) {c:Code} {Γ:Env} {w:World} {kn:KN} {ex:KE} {rt:KN} (h0:I i0 w) (hE:Sub (E i0) Γ)
 (round:∀ i w,I i w->vc P T N c (E i) w (fun Γ' w'=>∃ i',μ i'<μ i/\I i' w'/\Sub (E i') Γ') ex rt):SemC P N (.loop c) Γ w kn ex rt:=by
 unfold SemC;intro a ha;refine wp_loop_ghost (fun n a w=>∃ i,μ i=n/\I i w/\Ag N a (E i) [] []) (μ i0) ⟨i0,rfl,h0,ha.sub hE⟩ ?_;rintro n a w ⟨i,rfl,hI,hag⟩;have:=Qhj hT c (round i w hI);unfold SemC at this;refine wp_mono (this a hag) fun e a' w' hq => ?_
 cases e with
 | normal =>
   obtain⟨Γ',hag',i',hlt,hI',hsub⟩:=hq;exact⟨μ i',hlt,i',rfl,hI',hag'.sub hsub⟩
 | exit id=>exact hq
 | ret=>exact hq
 | goto l=>exact hq
 | panic c=>exact hq
 | outgrown=>exact hq
theorem Qa (hT:Qbe P T) {x y:Code} {Γ:Env} {w:World} {kn:KN} {ex:KE} {rt:KN} (h:vc P T N x Γ w (fun Γ' w'=>vc P T N y Γ' w' kn ex rt) ex rt):SemC P N (.seq x y) Γ w kn ex rt:=by
 have hx':=Qhj hT x h;unfold SemC at hx' ⊢;intro a ha;refine wp_seq (wp_mono (hx' a ha) fun e a' w' hq => ?_)
 cases e with
 | normal =>
   obtain⟨Γ',hag',hv⟩:=hq;have:=Qhj hT y hv;unfold SemC at this;exact this a' hag'
 | exit id=>exact hq
 | ret=>exact hq
 | goto l=>exact hq
 | panic c=>exact hq
 | outgrown=>exact hq
theorem Xl (hT:Qbe P T) {x y:Code} {Γ:Env} {w:World} {kn:KN} {ex:KE} {rt:KN} {ι:Type} (E:ι->Env) (M:ι->World->Prop)
 (hx:vc P T N x Γ w (fun Γ' w'=>∃ i,M i w'/\Sub (E i) Γ') ex rt) (hy:∀ i w',M i w'->vc P T N y (E i) w' kn ex rt):SemC P N (.seq x y) Γ w kn ex rt:=by
 have hx':=Qhj hT x hx;unfold SemC at hx' ⊢;intro a ha;refine wp_seq (wp_mono (hx' a ha) fun e a' w' hq => ?_)
 cases e with
 | normal =>
   obtain⟨Γ',hag',i,hM,hsub⟩:=hq;have:=Qhj hT y (hy i w' hM);unfold SemC at this;exact this a' (hag'.sub hsub)
 | exit id=>exact hq
 | ret=>exact hq
 | goto l=>exact hq
 | panic c=>exact hq
 | outgrown=>exact hq
def Qyt (T:Tab):List ResultVar->Env->World->(List Value->Prop)->Prop
 | [],_,_,K=>K []
 | .tmp t :: rs,Γ,w,K=>match get Γ t with
   | some v=>Qyt T rs Γ w fun vs=>K (v :: vs)
   | none=>False
 | .cell t ty :: rs,Γ,w,K=>match get Γ t with
   | some (.pointer (some a))=>match Qif T ty with
     | some ⟨_,n,true,_⟩=>∃ cs,(cs.length=n/\Xp w a cs)/\Qyt T rs Γ w fun vs=>K (.agg cs.toArray :: vs)
     | some ⟨_,_,false,_⟩=>∃ v,w.cell? a=some v/\Qyt T rs Γ w fun vs=>K (v :: vs)
     | none=>False
   | _=>False
def Xjb (T:Tab) (rs:List ResultVar) (R:Value->World->Prop) (Γ:Env) (w:World):Prop :=
 Qyt T rs Γ w fun vs=>match vs with
  | [v]=>R v w
  | vs=>R (.tuple vs.toArray) w
def Qrl:List Value->Env
 | [] => []
 | [a] => [(0,a)]
 | [a,b] => [(0,a),(1,b)]
 | [a,b,c] => [(0,a),(1,b),(2,c)]
 | [a,b,c,d] => [(0,a),(1,b),(2,c),(3,d)]
 | [a,b,c,d,e] => [(0,a),(1,b),(2,c),(3,d),(4,e)]
 | [a,b,c,d,e,f] => [(0,a),(1,b),(2,c),(3,d),(4,e),(5,f)]
 | [a,b,c,d,e,f,g] => [(0,a),(1,b),(2,c),(3,d),(4,e),(5,f),(6,g)]
 | [a,b,c,d,e,f,g,h] => [(0,a),(1,b),(2,c),(3,d),(4,e),(5,f),(6,g),(7,h)]
 | _ => []
theorem Xfu (t:Nat):get [] t=none:=rfl
theorem Q2e (args:List Value) (t:Nat) (v:Value) (h:get (Qrl args) t=some v):args[t]? = some v:=by
 unfold Qrl at h;split at h <;> (simp only[Qmp,Xfu] at h) <;> (repeat' split at h) <;> (first | (cases h;done) | (subst_vars;simpa using h))
def rvS (tmps:Array Value):ResultVar->Sem Value
 | .tmp t=>pure (tmps.getD t undef)
 | .cell a t=>do loadVar t (<- asAddr (tmps.getD a undef))
theorem Qs7 (hT:Qbe P T) {Γ:Env} {w:World} {a:Act} (ha:Ag N a Γ [] []):∀ (rs:List ResultVar) {K:List Value->Prop},Qyt T rs Γ w K ->
 ∃ vs,K vs/\(rs.mapM (rvS a.tmps)).run P w = .ok vs w
 | [],K,h=>⟨[],h,by simp⟩
 | .tmp t :: rs,K,h=>by
   simp only[Qyt] at h;split at h
   . rename_i v hv;obtain⟨vs,hK,hr⟩:=Qs7 hT ha rs h;have:=ha.env t v hv;have h1:(rvS a.tmps (.tmp t)).run P w = .ok v w:=by simp[rvS,Zcg,this]
     exact⟨v :: vs,hK,by simp[List.mapM_cons,hr,h1]⟩
   . exact h.elim
 | .cell t ty :: rs,K,h=>by
   simp only[Qyt] at h;split at h
   . rename_i p hv;have hval:=ha.env t _ hv;split at h
     . rename_i sh n z hty;obtain⟨cs,⟨hl,hcs⟩,h⟩:=h;obtain⟨vs,hK,hr⟩:=Qs7 hT ha rs h;have hlc:=run_loadCells_list (P:=P) (w:=w) p cs hcs;rw[hl] at hlc;have h1:(rvS a.tmps (.cell t ty)).run P w = .ok (.agg cs.toArray) w:=(by simp[rvS,Zcg,hval,asAddr,loadVar,Qm2 (hT.get hty),Qkf (hT.get hty),hlc]);exact⟨_,hK,by simp[List.mapM_cons,hr,h1]⟩
     . rename_i sh n z hty;obtain⟨v,hcv,h⟩:=h;obtain⟨vs,hK,hr⟩:=Qs7 hT ha rs h;have h1:(rvS a.tmps (.cell t ty)).run P w = .ok v w:=(by simp[rvS,Zcg,hval,asAddr,loadVar,Qm2 (hT.get hty),hcv]);exact⟨_,hK,by simp[List.mapM_cons,hr,h1]⟩
     . exact h.elim
   . exact h.elim
theorem Q4h (fn:Func) (tmps:Array Value):results fn tmps=(do let vs <- fn.results.mapM (rvS tmps);pure (if h:vs.size=1 then vs[0] else .tuple vs)):=by
 unfold results;congr 1
theorem Qd (hT:Qbe P T) {f:FuncId} {fn:Func} {body:Code} {args:List Value} {w:World} {R:Value->World->Prop} (hf:P.funcs[f]? = some fn)
 (hn : (fn.name == "runtime.NumGoroutine") = false) (hb : fn.body = some body) (rs : List ResultVar) (hrs : fn.results.toList = rs) (hN : fn.ntmps = N) (hargs : Nat.ble args.length N = true)
 (h:vc P T N body (Qrl args) w (Xjb T rs R) [] (Xjb T rs R)):Cal P f args w R:=by
 have hle:args.length<=N:=Zbt hargs;refine⟨⟨fn,hf,hn,by rw[hb];rfl⟩,calls_of_wp hf hb ?_⟩;have hs:=Qhj hT body h;unfold SemC at hs;have ha:Ag N { tmps:=args.toArray++Array.replicate (fn.ntmps-args.toArray.size) undef,defers := [] } (Qrl args) [] []:=(by refine⟨rfl,by simp[hN];omega,fun t v ht => ?_,fun t q v hl=>by simp[Qw7] at hl,fun t q v hl=>by simp[Qw7] at hl⟩;have:=Q2e args t v ht;have hlt:t<args.length:=(Zi.1 this).1;rw[Array.getElem?_append_left (by simpa using hlt)];simpa using this);refine wp_mono (hs _ ha) fun e a' w' hq => ?_
 have key:∀ Γ,Ag N a' Γ [] []->Xjb T rs R Γ w'->a'.defers = []/\∃ v,(results fn a'.tmps).run P w' = .ok v w'/\∃ u,Ending.returned v = .returned u/\R u w':=by
  intro Γ hag hk;obtain⟨vs,hK,hr⟩:=Qs7 hT hag rs hk;refine⟨hag.defers,?_⟩
  have hres:∃ v,(results fn a'.tmps).run P w' = .ok v w'/\R v w':=by
   rw[Q4h,Array.mapM_eq_mapM_toList,hrs];simp only[Sem.run_bind,Sem.run_map,hr,Result.andThen_ok,Sem.run_pure]
   match vs,hK with
   | [v],hK=>exact⟨v,by simp,hK⟩
   | [],hK=>exact⟨.tuple #[],by simp,hK⟩
   | u :: v :: l,hK=>exact⟨.tuple (u :: v :: l).toArray,by simp,hK⟩
  obtain⟨v,hv,hR⟩:=hres;exact⟨v,hv,v,rfl,hR⟩
 cases e with
 | normal=>obtain⟨Γ,hag,hk⟩:=hq;exact key Γ hag hk
 | ret=>obtain⟨Γ,hag,hk⟩:=hq;exact key Γ hag hk
 | exit id=>obtain⟨Γ,k,hk,_⟩:=hq;simp[Qxy] at hk
 | goto l=>exact hq.elim
 | panic c=>exact hq.elim
 | outgrown=>exact hq.elim
end
def Xjy (P:Program) (t:TypeId):List (String×Nat×Nat):=(P.fieldsOf t).toList.map fun f=>(f.name,f.type,f.offset)
structure Xbi (P:Program) (t:TypeId) (fs:List (String×Nat×Nat)):Prop where
 und:P.underlying t=some (.struct (P.fieldsOf t))
 fields:Xjy P t=fs
 guard:P.eqGuardType P.depth t=false
 held:P.stoodInHeld t=false
def eqL (T:Tab):List (String×Nat×Nat)->List Value->List Value->Option Bool
 | [],_,_=>some true
 | (nm, t, off) :: fs, xs, ys => bif nm == "_" then none else match Qif T t with
   | some ⟨.int _,_,_,_⟩=>match nth xs off with
     | some (.int k a)=>match nth ys off with
       | some (.int k' b)=>bif decide (k=k') then match eqL T fs xs ys with
         | some r=>some (decide (a=b)&&r)
         | none=>none else none
       | _=>none
     | _=>none
   | some ⟨.str,_,_,_⟩=>match nth xs off with
     | some (.string a)=>match nth ys off with
       | some (.string b)=>match eqL T fs xs ys with
         | some r=>some (decide (a=b)&&r)
         | none=>none
       | _=>none
     | _=>none
   | some ⟨.bool,_,_,_⟩=>match nth xs off with
     | some (.bool a)=>match nth ys off with
       | some (.bool b)=>match eqL T fs xs ys with
         | some r=>some (decide (a=b)&&r)
         | none=>none
       | _=>none
     | _=>none
   | _=>none
theorem Q93 {P:Program} {d:TypeDesc} (h:Qw8 P d = .bool):d = .bool:=by cases d <;> simp[Qw8] at h;rfl
theorem Qb5 {P:Program} {t:TypeId} {d:TypeDesc} (hd:P.underlying t=some d) (hn:(match d with | .struct _ | .array _ _=>true | _=>false)=false) {xs:List Value} {off:Nat} {v:Value} (h:nth xs off=some v) (w:World) :
 (part t xs.toArray off).run P w = .ok v w:=by
 rw[Qa1] at h;have:(isAgg t).run P w = .ok false w:=(by unfold isAgg;simp only[Sem.run_bind,run_underlying hd,Result.andThen_ok];cases d <;> simp_all);simp[part,this,h]
theorem Qji {P:Program} {T:Tab} (hT:Qbe P T) (d:Nat):∀ {gs:List Field} {fs:List (String×Nat×Nat)} {xs ys:List Value} {b:Bool},gs.map (fun f=>(f.name,f.type,f.offset))=fs->eqL T fs xs ys=some b ->
 ∀ w,(Op.eqFields (d+1) xs.toArray ys.toArray gs).run P w = .ok b w
 | [],fs,xs,ys,b,hg,h,w=>by
   simp at hg;subst hg;obtain rfl:true=b:=by simpa [eqL] using h
   simp[Op.eqFields]
 | g :: gs,[],xs,ys,b,hg,h,w=>by simp at hg
 | g :: gs,(nm,t,off) :: fs,xs,ys,b,hg,h,w=>by
   simp only[Zm,Zcx,Prod.mk.injEq] at hg;obtain⟨⟨rfl,rfl,rfl⟩,hg'⟩:=hg;simp only[eqL] at h
   cases hnm : (g.name == "_") <;> simp only [hnm, cond_true, cond_false] at h
   case true=>cases h
   have hnm' : g.name ≠ "_" := by simpa using hnm
   split at h
   . rename_i k0 s1 s2 s3 ht;obtain⟨_,d0,_,hd,_,hsh,_⟩:=Xm (hT.get ht);obtain rfl:=Q94 hsh;split at h
     . rename_i k a ha;split at h
       . rename_i k' c hc
         by_cases hk:k=k'
         . subst hk;simp only[decide_true,cond_true] at h;split at h
           . rename_i r hr;obtain rfl:(decide (a=c)&&r)=b:=by simpa using h
             have ih:=Qji hT d hg' hr w;have p1:=Qb5 hd rfl ha w;have p2:=Qb5 hd rfl hc w;have p3:=run_equalIn_int (P:=P) w d g.type k k0 a c hd;simp only[Op.eqFields,if_pos hnm',Sem.run_bind,p1,p2,p3,Result.andThen_ok]
             by_cases e:a=c
             . simp[e,ih]
             . simp[e]
           . cases h
         . simp[hk] at h
       . cases h
     . cases h
   . rename_i s1 s2 s3 ht;obtain⟨_,d0,_,hd,_,hsh,_⟩:=Xm (hT.get ht);obtain rfl:=Qq8 hsh;split at h
     . rename_i a ha;split at h
       . rename_i c hc;split at h
         . rename_i r hr;obtain rfl:(decide (a=c)&&r)=b:=by simpa using h
           have ih:=Qji hT d hg' hr w;have p1:=Qb5 hd rfl ha w;have p2:=Qb5 hd rfl hc w;have p3:=run_equalIn_string (P:=P) w d g.type a c hd;rw[str_eq] at p3;simp only[Op.eqFields,if_pos hnm',Sem.run_bind,p1,p2,p3,Result.andThen_ok]
           by_cases e:a=c
           . simp[e,ih]
           . simp[e]
         . cases h
       . cases h
     . cases h
   . rename_i s1 s2 s3 ht;obtain⟨_,d0,_,hd,_,hsh,_⟩:=Xm (hT.get ht);obtain rfl:=Q93 hsh;split at h
     . rename_i a ha;split at h
       . rename_i c hc;split at h
         . rename_i r hr;obtain rfl:(decide (a=c)&&r)=b:=by simpa using h
           have ih:=Qji hT d hg' hr w;have p1:=Qb5 hd rfl ha w;have p2:=Qb5 hd rfl hc w;have p3:=run_equalIn_bool' (P:=P) w d g.type a c hd;simp only[Op.eqFields,if_pos hnm',Sem.run_bind,p1,p2,p3,Result.andThen_ok]
           by_cases e:a=c
           . simp[e,ih]
           . simp[e]
         . cases h
       . cases h
     . cases h
   . cases h
theorem Qlh {P:Program} {T:Tab} (hT:Qbe P T) {t:TypeId} {fs:List (String×Nat×Nat)} (hs:Xbi P t fs) {xs ys:List Value} {b:Bool} (h:eqL T fs xs ys=some b) (w:World) :
 (Op.equal t (.agg xs.toArray) (.agg ys.toArray)).run P w = .ok b w:=by
 have:=run_equalIn_struct (P:=P) w 9999 t xs.toArray ys.toArray hs.und hs.held;unfold Op.equal Op.maxDepth;rw[this];exact Qji hT 9998 hs.fields h w
theorem Qe1 {P:Program} {T:Tab} (hT:Qbe P T) {t:TypeId} {fs:List (String×Nat×Nat)} (hs:Xbi P t fs) {ox oy:Operand} {xs ys:List Value} {b:Bool} (h:eqL T fs xs ys=some b) :
 Qm4 P t ox oy (.agg xs.toArray) (.agg ys.toArray) b:=by
 intro w;have h1:=run_eqGuard_agg (P:=P) w .eql t ox oy xs.toArray ys.toArray hs.guard;have h2:=run_eqGuard_agg (P:=P) w .neq t ox oy xs.toArray ys.toArray hs.guard;have h3:=run_eql_struct (P:=P) w t xs.toArray ys.toArray;have h4:=run_neq_struct (P:=P) w t xs.toArray ys.toArray;have h5:=Qlh hT hs h w;unfold Op.equal Op.maxDepth at h5;rw[h5] at h3 h4;constructor
 . simp only[Sem.run_bind,h1,Result.andThen_ok,h3]
 . simp only[Sem.run_bind,h2,Result.andThen_ok,h4]
inductive Pl where
 | done
 | one (i:Nat) (p:Pl)
 | two (i:Nat) (p:Pl) (j:Nat) (q:Pl)
def Pl.size:Pl->Nat
 | .done=>0
 | .one _ p=>p.size+1
 | .two _ p _ _=>p.size+1
def Pl.seq:List Nat->Pl->Pl
 | [],p=>p
 | i :: r,p => .one i (Pl.seq r p)
def Xeh (T:Tab) (ops:Array Oper):Pl->Array Bool->Bool
 | .done,listed=>(Region.ready .any ops listed).isEmpty
 | .one i p,listed=>match ops[i]? with
   | none=>false
   | some o=>(bif still T o.op then(Region.ready .any ops listed).contains i&&Region.free .any ops listed i else Region.ready .any ops listed == [i])&&Xeh T ops p (listed.setIfInBounds i true)
 | .two i p j q,listed=>match ops[i]? with
   | none=>false
   | some o=>match ops[j]? with
     | none=>false
     | some o' => !still T o.op && !still T o'.op&&Region.ready .any ops listed == [i,j]&&p.size == q.size&&Xeh T ops p (listed.setIfInBounds i true)&&Xeh T ops q (listed.setIfInBounds j true)
section
variable {P:Program} {T:Tab} {N:Nat} {cl:Cl} {ops:List Oper}
def Qfc (P:Program) (T:Tab) (N:Nat) (cl:Cl) (ops:List Oper) (o:Oper) (Γ:Env) (Δ:Loc) (G:List Nat) (w:World) (K:Env->Loc->List Nat->World->Prop):Prop :=
 Q83 ops Γ Δ o.guard fun p =>
  bif still T o.op then
   Xha P T cl (fun e x=>evO Γ Δ (e++p) x) (Und Γ Δ p) o.op w fun v=>Xel N p o.dst v Γ Δ G fun Γ' Δ' G'=>K Γ' Δ' G' w
  else Xiw P T N cl p o Γ Δ G w fun w' Γ' Δ' G'=>K Γ' Δ' G' w'
def Xhc (P:Program) (T:Tab) (N:Nat) (cl:Cl) (ops:List Oper):Pl->Env->Loc->List Nat->World->(Env->Loc->List Nat->World->Prop)->Prop
 | .done,Γ,Δ,G,w,K=>K Γ Δ G w
 | .one i p,Γ,Δ,G,w,K=>match nth ops i with
   | some o=>Qfc P T N cl ops o Γ Δ G w fun Γ' Δ' G' w'=>Xhc P T N cl ops p Γ' Δ' G' w' K
   | none=>False
 | .two i p j q,Γ,Δ,G,w,K=>(match nth ops i with
   | some o=>Qfc P T N cl ops o Γ Δ G w fun Γ' Δ' G' w'=>Xhc P T N cl ops p Γ' Δ' G' w' K
   | none=>False)/\(match nth ops j with
   | some o=>Qfc P T N cl ops o Γ Δ G w fun Γ' Δ' G' w'=>Xhc P T N cl ops q Γ' Δ' G' w' K
   | none=>False)
theorem Qjx (hT:Qbe P T) (hns:cl ≠ .same) (hsel:Region.noSelect ops.toArray=true) {K:Env->Loc->List Nat->World->Prop} {Q:Exit->Act->World->Prop} (hQ:∀ a Γ Δ G w,Ag N a Γ Δ G->K Γ Δ G w->Q .normal a w) (hp:∀ c a w,¬ Q (.panic c) a w) :
 ∀ (pl:Pl) (listed:Array Bool) (Γ:Env) (Δ:Loc) (G:List Nat) (a:Act) (w:World),Xeh T ops.toArray pl listed=true->Ag N a Γ Δ G ->
   Xhc P T N cl ops pl Γ Δ G w K->wpT P ops.toArray Q (fun L w'=>noneOf [] L->cl.rel w w') pl.size listed a w
 | .done,listed,Γ,Δ,G,a,w,hc,ha,h=>by
   simp only[Xeh,List.isEmpty_iff] at hc;exact⟨hc,hQ a Γ Δ G w ha h⟩
 | .one i pl,listed,Γ,Δ,G,a,w,hc,ha,h=>by
   simp only[Xeh] at hc
   cases ho:ops.toArray[i]? with
   | none=>rw[ho] at hc;simp at hc
   | some o =>
     rw[ho] at hc;simp only[Zl] at hc;obtain⟨hc1,hc2⟩:=hc;have ho':ops[i]? = some o:=by simpa using ho
     simp only[Xhc,Qa1,ho'] at h;unfold Qfc at h;obtain⟨p,hp1,hw⟩:=Xv ha h;cases hs:still T o.op <;> simp only[hs,cond_true,cond_false] at hp1 hc1
     . have hr:Region.ready .any ops.toArray listed = [i]:=by simpa using hc1
       refine⟨fun h0=>(by rw[hr] at h0;cases h0),fun j hj => ?_⟩;rw[hr] at hj;obtain rfl:j=i:=by simpa using hj
       have:=Qbq (Q:=Q) hT ha hw hp1 (M:=fun a' w'=>(noneOf [] (listed.setIfInBounds j true)->cl.rel w w')/\wpT P ops.toArray Q (fun L w'=>noneOf [] L->cl.rel w w') pl.size (listed.setIfInBounds j true) a' w')
        fun a' w' Γ' Δ' G' hrel hag hk=>by
         have hrel':=hrel.resolve_left hns;exact⟨fun _=>hrel',Qcj (fun L w'' hw'' hn=>cl.trans hrel' (hw'' hn)) _ _ _ _ (Qjx hT hns hsel hQ hp pl _ Γ' Δ' G' a' w' hc2 hag hk)⟩
       unfold wpOp;simpa only[ho] using this
     . obtain⟨v,Γ',Δ',G',hy,hag,hk⟩:=still_step hT ha hw hp1;simp only[Zl] at hc1
       exact Qpi (B := []) (D := []) (C:=cl.rel w) ho (Region.noSelect_spec hsel) (fun c a w hh=>(hp _ _ _ hh).elim) (by simp)
        (fun j hj=>by simp at hj) (fun d hd=>by simp at hd) _ listed a w (Region.free_spec ho hc1.2) (by simpa using hc1.1)
        (fun d hd=>by simp at hd) hy (Cl.refl _ _) (Qjx hT hns hsel hQ hp pl _ Γ' Δ' G' _ w hc2 hag hk)
 | .two i pl j ql,listed,Γ,Δ,G,a,w,hc,ha,h=>by
   simp only[Xeh] at hc
   cases ho:ops.toArray[i]? with
   | none=>rw[ho] at hc;simp at hc
   | some o =>
     rw[ho] at hc
     cases hu:ops.toArray[j]? with
     | none=>rw[hu] at hc;simp at hc
     | some u =>
       rw[hu] at hc;simp only[Zl,Zai,beq_iff_eq] at hc;obtain⟨⟨⟨⟨⟨hs,hsu⟩,hr⟩,hsz⟩,hc1⟩,hc2⟩:=hc;have ho':ops[i]? = some o:=by simpa using ho
       have hu':ops[j]? = some u:=by simpa using hu
       obtain⟨h1,h2⟩:=h;simp only[Qa1,ho'] at h1;simp only[Qa1,hu'] at h2;unfold Qfc at h1 h2;obtain⟨p,hp1,hw⟩:=Xv ha h1;obtain⟨p',hp1',hw'⟩:=Xv ha h2;simp only[hs,hsu,cond_false] at hp1 hp1';refine⟨fun h0=>(by rw[hr] at h0;cases h0),fun k hk => ?_⟩;rw[hr] at hk;have hk':k=i\/k=j:=by simpa using hk
       rcases hk' with rfl | rfl
       . have:=Qbq (Q:=Q) hT ha hw hp1 (M:=fun a' w'=>(noneOf [] (listed.setIfInBounds k true)->cl.rel w w')/\wpT P ops.toArray Q (fun L w'=>noneOf [] L->cl.rel w w') pl.size (listed.setIfInBounds k true) a' w')
          fun a' w' Γ' Δ' G' hrel hag hk=>by
           have hrel':=hrel.resolve_left hns;exact⟨fun _=>hrel',Qcj (fun L w'' hw'' hn=>cl.trans hrel' (hw'' hn)) _ _ _ _ (Qjx hT hns hsel hQ hp pl _ Γ' Δ' G' a' w' hc1 hag hk)⟩
         unfold wpOp;simpa only[ho] using this
       . have:=Qbq (Q:=Q) hT ha hw' hp1' (M:=fun a' w'=>(noneOf [] (listed.setIfInBounds k true)->cl.rel w w')/\wpT P ops.toArray Q (fun L w'=>noneOf [] L->cl.rel w w') pl.size (listed.setIfInBounds k true) a' w')
          fun a' w' Γ' Δ' G' hrel hag hk=>by
           have hrel':=hrel.resolve_left hns;refine⟨fun _=>hrel',?_⟩;rw[hsz];exact Qcj (fun L w'' hw'' hn=>cl.trans hrel' (hw'' hn)) _ _ _ _ (Qjx hT hns hsel hQ hp ql _ Γ' Δ' G' a' w' hc2 hag hk)
         unfold wpOp;simpa only[hu] using this
theorem Qfr (cl:Cl) (pl:Pl) (hns:cl ≠ .same) (hT:Qbe P T) (hm:P.follows .mixedOrders=true) {id:Nat} {ops:Array Oper} {Γ:Env} {w:World} {kn:KN} {ex:KE} {rt:KN} (hc:(Region.noSelect ops&&(pl.size == ops.size)&&Xeh T ops pl (Array.replicate ops.size false))=true)
 (h:Xhc P T N cl ops.toList pl Γ [] [] w.drew fun Γ' _ _ w'=>kn Γ' w'):SemC P N (.region id ops true) Γ w kn ex rt:=by
 unfold SemC;intro a ha;simp only[Zl,beq_iff_eq] at hc;obtain⟨⟨h1,h2⟩,h3⟩:=hc;have:=Qjx (ops:=ops.toList) (Q:=toQ N kn ex rt) hT hns h1 (fun a Γ Δ G w hag hk=>⟨Γ,hag.done,hk⟩) (fun c a w hq=>hq) pl (Array.replicate ops.size false) Γ [] [] a w.drew h3 ha h;rw[h2] at this;exact wp_region_any hm (Qdq _ _ _ _ this)
theorem Qrf {ops:Array Oper} {Q:Exit->Act->World->Prop} {S:Array Bool->World->Prop} {B D:List Nat} {C:World->Prop} {i:Nat} {oi:Oper} {v:Value} (hi:ops[i]? = some oi) (hsel:∀ (j:Nat) (o:Oper) cs b,ops[j]? = some o->o.op ≠ .select cs b)
 (hQ:∀ c a w,Q (.panic c) (a.put oi.dst v) w->Q (.panic c) a w) (hSi:∀ L w,S (L.setIfInBounds i true) w->S L w) (hSC:∀ L w,noneOf B L->S L w->C w) (hiB:i∉B) (hBD:∀ j∈B,j∈D)
 (hD:∀ d∈D,∀ od,ops[d]? = some od->∃ e∈od.after,Region.binds .any e=true/\(e.on=i\/e.on∈D)) :
 ∀ (fuel:Nat) (listed:Array Bool) (a:Act) (w:World),
   (∀ j oj,ops[j]? = some oj->j≠i->listed.getD j true=false->(∀ e∈oj.after,Region.binds .any e=true->e.on≠i)->oi.apart ops oj=true) ->
   i∈Region.ready .any ops listed->noneOf D listed->YieldsIf P ops C oi v a->C w->S (listed.setIfInBounds i true) w ->
   wpT P ops Q S fuel (listed.setIfInBounds i true) (a.put oi.dst v) w->wpT P ops Q S (fuel+1) listed a w:=by
 intro fuel
 induction fuel with
 | zero =>
   intro listed a w _ hr hN hy hC hS H;refine⟨fun h=>(by rw[h] at hr;cases hr),fun j hj => ?_⟩
   by_cases hji:j=i
   . subst hji;exact hy.wpOp hi hC ⟨hS,H⟩
   . have:=ready_mono hj hji;rw[H.1] at this;cases this
 | succ fuel ih =>
   intro listed a w hfree hr hN hy hC hS H;refine⟨fun h=>(by rw[h] at hr;cases hr),fun j hj => ?_⟩
   by_cases hji:j=i
   . subst hji;exact hy.wpOp hi hC ⟨hS,H⟩
   . have h1:=H.2 j (ready_mono hj hji);obtain⟨hjun,oj,hoj,hall⟩:=mem_ready.1 hj
     have hil:listed.getD i false=false:=by
      have h0:=(mem_ready.1 hr).1;rcases Zb5 i listed.size with h' | h'
      . simp[h'] at h0 ⊢;exact h0
      . simp[Zbp h']
     have hnot:∀ e∈oj.after,Region.binds .any e=true->e.on≠i:=fun e he hb heq=>(by have h1:=hall e he hb;rw[heq,hil] at h1;cases h1)
     have hjD:j∉D:=fun hjD=>by
      obtain⟨e,he,hb,hon⟩:=hD j hjD oj hoj;rcases hon with hon | hon
      . exact hnot e he hb hon
      . have:=hall e he hb;rw[hN _ hon] at this;cases this
     have hjB:j∉B:=fun h=>hjD (hBD j h)
     have hnB:noneOf B ((listed.setIfInBounds i true).setIfInBounds j true):=Qbk (Qbk (fun k hk=>hN k (hBD k hk)) hiB) hjB;have h2:=wpOp_putIf (S:=C) hoj (hfree j oj hoj hji hjun hnot) (fun cs b=>hsel i oi cs b hi) (fun cs b=>hsel j oj cs b hoj) hQ hy h1
     have hfree':∀ k ok,ops[k]? = some ok->k≠i->(listed.setIfInBounds j true).getD k true=false ->
      (∀ e∈ok.after,Region.binds .any e=true->e.on≠i)->oi.apart ops ok=true:=fun k ok hk hki hun hno=>by
      refine hfree k ok hk hki ?_ hno
      by_cases hjk:j=k
      . subst hjk;exact hjun
      . rw[getD_set_ne true hjk] at hun;exact hun
     refine wpOp_mono (fun a' w' h3 => ?_) h2;have hS':=h3.2.1;have hC':C w':=hSC _ _ hnB hS';have hcomm:(listed.setIfInBounds i true).setIfInBounds j true=(listed.setIfInBounds j true).setIfInBounds i true:=Array.setIfInBounds_comm _ _ (Ne.symm hji);rw[hcomm] at hS';refine⟨hSi _ _ hS',ih (listed.setIfInBounds j true) a' w' hfree' (ready_mono hr (Ne.symm hji)) (Qbk hN hjD) h3.1 hC' hS' ?_⟩;rw[<- hcomm];exact h3.2.2
def SS (E0 B:List Nat) (w0:World) (cl:Cl) (w:World) (L:Array Bool) (w':World):Prop:=(noneOf E0 L->w'=w0)/\(noneOf B L->cl.rel w w')
theorem Qln {B:List Nat} {L:Array Bool} {i:Nat} (h:noneOf B (L.setIfInBounds i true)):noneOf B L:=fun j hj=>by
 have:=h j hj
 by_cases e:i=j
 . subst e;rcases Zb5 i L.size with hlt | hge
   . simp[hlt] at this
   . simp[Zbp hge]
 . rw[getD_set_ne false e] at this;exact this
theorem Qiq (hT:Qbe P T) {K:Env->Loc->List Nat->World->Prop} {Q:Exit->Act->World->Prop} (hQ:∀ a Γ Δ G w,Ag N a Γ Δ G->K Γ Δ G w->Q .normal a w) {B0:List Nat} {S:Array Bool->World->Prop} (hSB:∀ (L:Array Bool) (w:World) (i:Nat),i<L.size->i∈B0->S (L.setIfInBounds i true) w) :
 ∀ (B:List Nat) (listed:Array Bool) (Γ:Env) (Δ:Loc) (G:List Nat) (a:Act) (w:World),Qcl.canonB ops.toArray B listed=true->(∀ j∈B,j∈B0)->listed.size=ops.length->Ag N a Γ Δ G->Qeu P T N .same ops (Qhe ops B) Γ Δ G w K ->
   wpT P ops.toArray Q S B.length listed a w
 | [],listed,Γ,Δ,G,a,w,hc,_,_,ha,h=>by
   simp only[Qcl.canonB,List.isEmpty_iff] at hc;exact⟨hc,hQ a Γ Δ G w ha h⟩
 | i :: B,listed,Γ,Δ,G,a,w,hc,hB,hls,ha,h=>by
   simp only[Qcl.canonB,Zl] at hc;obtain⟨⟨hc0,hc1⟩,hc2⟩:=hc;obtain⟨o,ho⟩:=Zca.1 hc0;have ho':ops[i]? = some o:=by simpa using ho
   have hr:Region.ready .any ops.toArray listed = [i]:=by simpa using hc1
   simp only[Qhe,Qa1,ho'] at h;simp only[Qeu] at h;obtain⟨p,hp1,hw⟩:=Xv ha h;have hlt:i<listed.size:=by rw[hls];exact(Zi.1 ho').1
   refine⟨fun h0=>(by rw[hr] at h0;cases h0),fun j hj => ?_⟩;rw[hr] at hj;obtain rfl:j=i:=by simpa using hj
   have hS:∀ w',S (listed.setIfInBounds j true) w':=fun w'=>hSB _ _ _ hlt (hB j (by simp))
   cases hs:still T o.op <;> simp only[hs,cond_true,cond_false] at hp1
   . have:=Qbq (Q:=Q) (cl := .same) hT ha hw hp1 (M:=fun a' w'=>S (listed.setIfInBounds j true) w'/\wpT P ops.toArray Q S B.length (listed.setIfInBounds j true) a' w')
      fun a' w' Γ' Δ' G' _ hag hk=>⟨hS w',Qiq hT hQ hSB B _ Γ' Δ' G' a' w' hc2 (fun k hk=>hB k (by simp[hk])) (by simpa using hls) hag hk⟩
     unfold wpOp;simpa only[ho] using this
   . obtain⟨v,Γ',Δ',G',hy,hag,hk⟩:=still_step hT ha hw hp1;have hgo:=Qiq hT hQ hSB B (listed.setIfInBounds j true) Γ' Δ' G' _ w hc2 (fun k hk=>hB k (by simp[hk])) (by simpa using hls) hag hk;exact YieldsIf.wpOp (Q:=Q) (i:=j) (ops:=ops.toArray) ho hy (w:=w) (Cl.refl _ _) ⟨hS w,hgo⟩
def Q0f (T:Tab) (ops:Array Oper) (E0 A B:List Nat):List (Nat×Bool)->Array Bool->Bool
 | [],listed=>Qcl T ops B A listed
 | (i,s) :: r,listed=>match ops[i]? with
   | none=>false
   | some o=>still T o.op&&(Region.ready .any ops listed).contains i&&Region.free .any ops listed i&&Qqn ops (bif s then E0 else B) listed i && !E0.contains i && !B.contains i&&Q0f T ops E0 A B r (listed.setIfInBounds i true)
def Q1g (P:Program) (T:Tab) (N:Nat) (cl:Cl) (ops:List Oper):List (Nat×Bool)->Env->Loc->List Nat->World->(Env->Loc->List Nat->World->Prop)->Prop
 | [],Γ,Δ,G,w,K=>K Γ Δ G w
 | (i,s) :: r,Γ,Δ,G,w,K=>match nth ops i with
   | some o=>Q83 ops Γ Δ o.guard fun p=>Xha P T (match s with | true => .same | false=>cl) (fun e x=>evO Γ Δ (e++p) x) (Und Γ Δ p) o.op w fun v=>Xel N p o.dst v Γ Δ G fun Γ' Δ' G'=>Q1g P T N cl ops r Γ' Δ' G' w K
   | none=>False
theorem Qk0 (hT:Qbe P T) (hsel:Region.noSelect ops.toArray=true) (E0 B:List Nat) (w0:World) (hBE:∀ j∈B,j∈E0) {K:Env->Loc->List Nat->World->Prop} {Q:Exit->Act->World->Prop} (hQ:∀ a Γ Δ G w,Ag N a Γ Δ G->K Γ Δ G w->Q .normal a w) (hp:∀ c a w,¬ Q (.panic c) a w) :
 ∀ (ord:List Nat) (listed:Array Bool) (Γ:Env) (Δ:Loc) (G:List Nat) (a:Act) (w:World),(∀ i∈ord,∀ o,ops[i]? = some o->(still T o.op=false↔i∈E0))->Qcl T ops.toArray B ord listed=true->listed.size=ops.length->Ag N a Γ Δ G->(noneOf E0 listed->w=w0) ->
   Qeu P T N cl ops (Qhe ops ord) Γ Δ G w (fun Γ' Δ' G' w'=>Qeu P T N .same ops (Qhe ops B) Γ' Δ' G' w' K) ->
   (cl = .same->∀ i∈ord,∀ o,ops[i]? = some o->still T o.op=true) ->
   wpT P ops.toArray Q (SS E0 B w0 cl w) (ord.length+B.length) listed a w
 | [],listed,Γ,Δ,G,a,w,_,hc,hls,ha,hw0,h,_=>by
   simp only[Qcl] at hc;simp only[Zam,Zbg];exact Qiq hT hQ (B0:=B) (S:=SS E0 B w0 cl w) (fun L w' i hi hB=>⟨fun hn=>by have:=hn i (hBE i hB);simp[hi] at this,fun hn=>by have:=hn i hB;simp[hi] at this⟩) B listed Γ Δ G a w hc (fun _ h=>h) hls ha h
 | i :: ord,listed,Γ,Δ,G,a,w,hE,hc,hls,ha,hw0,h,hsame=>by
   simp only[Qcl] at hc;rw[show (i :: ord).length+B.length=(ord.length+B.length)+1 by simp;omega]
   cases ho:ops.toArray[i]? with
   | none=>rw[ho] at hc;simp at hc
   | some o =>
     rw[ho] at hc;simp only[Zl] at hc;obtain⟨hc1,hc2⟩:=hc;have ho':ops[i]? = some o:=by simpa using ho
     have hlt:i<listed.size:=by rw[hls];exact(Zi.1 ho').1
     have hsame':cl = .same->∀ i∈ord,∀ o,ops[i]? = some o->still T o.op=true:=fun e j hj o hjo=>hsame e j (by simp[hj]) o hjo
     have hE':∀ i∈ord,∀ o,ops[i]? = some o->(still T o.op=false↔i∈E0):=fun j hj o hjo=>hE j (by simp[hj]) o hjo
     simp only[Qhe,Qa1,ho'] at h;simp only[Qeu] at h;obtain⟨p,hp1,hw⟩:=Xv ha h;cases hs:still T o.op <;> simp only[hs,cond_true,cond_false] at hp1 hc1
     . have hns:cl ≠ .same:=fun e=>by have:=hsame e i (by simp) o ho';rw[hs] at this;cases this
       have hiE:i∈E0:=(hE i (by simp) o ho').1 hs;simp only[Zl] at hc1;have hr:Region.ready .any ops.toArray listed = [i]:=by simpa using hc1.1
       refine⟨fun h0=>(by rw[hr] at h0;cases h0),fun j hj => ?_⟩;rw[hr] at hj;obtain rfl:j=i:=by simpa using hj
       have hno:¬ noneOf E0 (listed.setIfInBounds j true):=fun hn=>by have:=hn j hiE;simp[hlt] at this
       have:=Qbq (Q:=Q) hT ha hw hp1 (M:=fun a' w'=>SS E0 B w0 cl w (listed.setIfInBounds j true) w'/\wpT P ops.toArray Q (SS E0 B w0 cl w) (ord.length+B.length) (listed.setIfInBounds j true) a' w')
        fun a' w' Γ' Δ' G' hrel hag hk=>by
         have hrel':=hrel.resolve_left hns;exact⟨⟨fun hn=>(hno hn).elim,fun _=>hrel'⟩,Qcj (fun L w'' hw''=>⟨hw''.1,fun hn=>cl.trans hrel' (hw''.2 hn)⟩) _ _ _ _ (Qk0 hT hsel E0 B w0 hBE hQ hp ord _ Γ' Δ' G' a' w' hE' hc2 (by simpa using hls) hag (fun hn=>(hno hn).elim) hk hsame')⟩
       unfold wpOp;simpa only[ho] using this
     . obtain⟨v,Γ',Δ',G',hy,hag,hk⟩:=still_step hT ha hw hp1;have hiE:i∉E0:=fun hh=>by have:=(hE i (by simp) o ho').2 hh;rw[hs] at this;cases this
       simp only[Zl] at hc1;obtain⟨⟨hcr,hcf⟩,hcl⟩:=hc1;simp only[Qqn,Zl,Zai] at hcl;obtain⟨hcl1,⟨hcl2,hcl3⟩,hcl4⟩:=hcl;have hiB:i∉B:=by simpa using hcl1
       refine Qrf (B:=B) (D:=Q0p ops.toArray i) (C:=cl.rel w) ho (Region.noSelect_spec hsel) (fun c a w hh=>(hp _ _ _ hh).elim) (fun L w' hS=>⟨fun hn=>hS.1 (Qbk hn hiE),fun hn=>hS.2 (Qbk hn hiB)⟩) (fun L w' hn hS=>hS.2 hn) hiB
        (fun j hj=>by have:=Zaf.1 hcl2 j hj;simpa using this) ?_ _ listed a w (Region.free_spec ho hcf) (by simpa using hcr)
        (fun d hd=>by have:=Zaf.1 hcl4 d hd;simpa using this) hy (Cl.refl _ _) ⟨fun hn=>hw0 (Qln hn),fun _=>Cl.refl _ _⟩ (Qk0 hT hsel E0 B w0 hBE hQ hp ord _ Γ' Δ' G' _ w hE' hc2 (by simpa using hls) hag (fun hn=>hw0 (Qln hn)) hk hsame')
       intro d hd od hod;have:=Zaf.1 hcl3 d hd;rw[hod] at this;obtain⟨e,he,hb⟩:=Array.any_eq_true'.1 this;simp only[Zl,Zbi,beq_iff_eq,List.contains_eq_mem,decide_eq_true_eq] at hb;exact⟨e,he,hb.1,hb.2⟩
theorem Qqu (hT:Qbe P T) (hsel:Region.noSelect ops.toArray=true) (E0 A B:List Nat) (w0:World) (hBE:∀ j∈B,j∈E0) {K:Env->Loc->List Nat->World->Prop} {Q:Exit->Act->World->Prop} (hQ:∀ a Γ Δ G w,Ag N a Γ Δ G->K Γ Δ G w->Q .normal a w) (hp:∀ c a w,¬ Q (.panic c) a w)
 (hE:∀ i∈A,∀ o,ops[i]? = some o->(still T o.op=false↔i∈E0)) (hsame:cl = .same->∀ i∈A,∀ o,ops[i]? = some o->still T o.op=true) :
 ∀ (ord:List (Nat×Bool)) (listed:Array Bool) (Γ:Env) (Δ:Loc) (G:List Nat) (a:Act),Q0f T ops.toArray E0 A B ord listed=true->listed.size=ops.length->Ag N a Γ Δ G ->
   Q1g P T N cl ops ord Γ Δ G w0 (fun Γ' Δ' G' w'=>Qeu P T N cl ops (Qhe ops A) Γ' Δ' G' w' (fun Γ' Δ' G' w'=>Qeu P T N .same ops (Qhe ops B) Γ' Δ' G' w' K)) ->
   wpT P ops.toArray Q (SS E0 B w0 cl w0) (ord.length+(A.length+B.length)) listed a w0
 | [],listed,Γ,Δ,G,a,hc,hls,ha,h=>by
   rw[show ([]:List (Nat×Bool)).length+(A.length+B.length)=A.length+B.length by simp];exact Qk0 hT hsel E0 B w0 hBE hQ hp A listed Γ Δ G a w0 hE hc hls ha (fun _=>rfl) h hsame
 | (i,s) :: ord,listed,Γ,Δ,G,a,hc,hls,ha,h=>by
   simp only[Q0f] at hc;rw[show ((i,s) :: ord).length+(A.length+B.length)=(ord.length+(A.length+B.length))+1 by simp;omega]
   cases ho:ops.toArray[i]? with
   | none=>rw[ho] at hc;simp at hc
   | some o =>
     rw[ho] at hc;simp only[Zl,Zai] at hc;obtain⟨⟨⟨⟨⟨⟨hs,hcr⟩,hcf⟩,hcl⟩,hiE⟩,hiB⟩,hc2⟩:=hc;have ho':ops[i]? = some o:=by simpa using ho
     have hiE:i∉E0:=by simpa using hiE
     have hiB:i∉B:=by simpa using hiB
     simp only[Q1g,Qa1,ho'] at h;obtain⟨p,hp1,hw⟩:=Xv ha h;obtain⟨v,Γ',Δ',G',hy,hag,hk⟩:=still_step hT ha hw hp1;have hgo:=Qqu hT hsel E0 A B w0 hBE hQ hp hE hsame ord (listed.setIfInBounds i true) Γ' Δ' G' _ hc2 (by simpa using hls) hag hk
     have hX:∃ X:List Nat,∃ cl':Cl,YieldsIf P ops.toArray (cl'.rel w0) o v a/\Qqn ops.toArray X listed i=true/\i∉X/\∀ L w',noneOf X L->SS E0 B w0 cl w0 L w'->cl'.rel w0 w':=by
      cases s with
      | true=>exact⟨E0,.same,hy,hcl,hiE,fun L w' hn hS=>hS.1 hn⟩
      | false=>exact⟨B,cl,hy,hcl,hiB,fun L w' hn hS=>hS.2 hn⟩
     obtain⟨X,cl',hy,hcl,hiX,hSC⟩:=hX;simp only[Qqn,Zl,Zai] at hcl;obtain⟨hcl1,⟨hcl2,hcl3⟩,hcl4⟩:=hcl
     refine Qrf (B:=X) (D:=Q0p ops.toArray i) (C:=cl'.rel w0) ho (Region.noSelect_spec hsel) (fun c a w hh=>(hp _ _ _ hh).elim) (fun L w' hS=>⟨fun hn=>hS.1 (Qbk hn hiE),fun hn=>hS.2 (Qbk hn hiB)⟩) hSC hiX
      (fun j hj=>by have:=Zaf.1 hcl2 j hj;simpa using this) ?_ _ listed a w0 (Region.free_spec ho hcf) (by simpa using hcr)
      (fun d hd=>by have:=Zaf.1 hcl4 d hd;simpa using this) hy (Cl.refl _ _) ⟨fun _=>rfl,fun _=>Cl.refl _ _⟩ hgo
     intro d hd od hod;have:=Zaf.1 hcl3 d hd;rw[hod] at this;obtain⟨e,he,hb⟩:=Array.any_eq_true'.1 this;simp only[Zl,Zbi,beq_iff_eq,List.contains_eq_mem,decide_eq_true_eq] at hb;exact⟨e,he,hb.1,hb.2⟩
theorem Qdi (cl:Cl) (O:List (Nat×Bool)) (A B E0:List Nat) (hT:Qbe P T) (hm:P.follows .mixedOrders=true) {id:Nat} {ops:Array Oper} {Γ:Env} {w:World} {kn:KN} {ex:KE} {rt:KN}
 (hc:(Region.noSelect ops&&(O.length+(A.length+B.length) == ops.size)&&B.all (E0.contains ·)&&A.all (fun i=>match ops[i]? with | some o=>(!still T o.op) == E0.contains i | none=>true)&&Q0f T ops E0 A B O (Array.replicate ops.size false))=true)
 (hs:cl = .same->A.all (fun i=>match ops[i]? with | some o=>still T o.op | none=>true)=true)
 (h:Q1g P T N cl ops.toList O Γ [] [] w.drew fun Γ' Δ' G' w'=>Qeu P T N cl ops.toList (Qhe ops.toList A) Γ' Δ' G' w' fun Γ' Δ' G' w'=>Qeu P T N .same ops.toList (Qhe ops.toList B) Γ' Δ' G' w' fun Γ'' _ _ w''=>kn Γ'' w''):SemC P N (.region id ops true) Γ w kn ex rt:=by
 unfold SemC;intro a ha;simp only[Zl,beq_iff_eq] at hc;obtain⟨⟨⟨⟨h1,h2⟩,h4⟩,h5⟩,h3⟩:=hc
 have:=Qqu (ops:=ops.toList) (Q:=toQ N kn ex rt) hT h1 E0 A B w.drew (fun j hj=>by have:=Zaf.1 h4 j hj;simpa using this) (fun a Γ Δ G w hag hk=>⟨Γ,hag.done,hk⟩) (fun c a w hq=>hq)
  (fun i hi o hio=>by
   have:=Zaf.1 h5 i hi;have hio':ops[i]? = some o:=by simpa using hio
   simp only[hio',beq_iff_eq] at this;have hm:(E0.contains i=true)↔i∈E0:=by simp
   rw[<- hm,<- this];simp)
  (fun e i hi o hio=>by
   have:=Zaf.1 (hs e) i hi;have hio':ops[i]? = some o:=by simpa using hio
   simpa [hio'] using this) O (Array.replicate ops.size false) Γ [] [] a h3 (by simp) ha h
 rw[h2] at this;exact wp_region_any hm (Qdq _ _ _ _ this)
end
theorem Qiy {P:Program} {N:Nat} {c:Code} {Γ:Env} {w:World} {kn:KN} {ex:KE} {rt:KN} {ι:Type} (E:ι->Env) (M:ι->World->Prop)
 (hx:SemC P N c Γ w (fun Γ' w'=>∃ i,M i w'/\Sub (E i) Γ') ex rt) (hy:∀ i w',M i w'->kn (E i) w'):SemC P N c Γ w kn ex rt:=by
 unfold SemC at hx ⊢;intro a ha;refine wp_mono (hx a ha) fun e a' w' hq => ?_
 cases e with
 | normal =>
   obtain⟨Γ',hag',i,hM,hsub⟩:=hq;exact⟨E i,hag'.sub hsub,hy i w' hM⟩
 | exit id=>exact hq
 | ret=>exact hq
 | goto l=>exact hq
 | panic c=>exact hq
 | outgrown=>exact hq
end Go.Se
