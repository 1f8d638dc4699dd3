/- Several texts in one: Wa1, Wa2, Wa3, Wr1. -/
import Derived.Test.YtohkipkjleldpaaGreatDoorGF
import Derived.Test.YtohkipkjleldpaaGreatDoorGC
set_option linter.unusedVariables false
set_option linter.unusedSimpArgs false
namespace Go.Proofs.YtohkipkjleldpaaGreatDoor
open Go.Se Go.RowKit
def Qyn (p:ByteArray) (e:Ev):Bool:=decide (e.person=p) && !decide (e.kind=14)
section
variable {α:Type} {enc:α→List Value} {sz:Nat} {te:TypeId} {base:Nat} {w w':World} {A:Option Addr} {c:Nat} {l:List α}
theorem Q2t {P:Program} {t ty:TypeId} (ht:P.underlying t=some (.slice te)) {ety:TyE} (hte:Q5 P te=some ety) (hz:(Qg ety.zero).length=sz) (hzo:∀ u∈Qg ety.zero,u.oneCell'=true) (hsz:∀ x,(enc x).length=sz)
 {i:Nat} (hi:i<l.length) {a:Addr} (hown:Own enc sz te base w (some a) c l) {n cap:Nat} (hn:n=l.length-i) {R:Value→World→Prop}
 (h:∀ w',Own enc sz te base w' (some a) c (l.take i)→Only w w' a.block→R (.tuple #[]) w'):Qhr P (Builtin.clear_ #[t] ty #[.slice (some (a.add (i*sz))) n cap]) w R:=by
 rcases hown.2 with⟨hv',h0⟩ | ⟨g,cp,cur,hv',hb,hg,h1,h2,h3,h4⟩
 · omega
 · have hA:a=⟨g,0,none⟩:=by injection hv' with h _ _;injection h
   have hc:c=cp:=by injection hv'
   subst hA hc;rw[Qz];obtain⟨m,rfl⟩:∃ m,n=m+1:=⟨n-1,by omega⟩;have hle:i*sz+(m+1)*sz=l.length*sz:=by rw[← Nat.add_mul];congr 1;omega
   have hle2:l.length*sz≤c*sz:=Nat.mul_le_mul_right sz h1;have hzs:ety.zero.cells.size=sz:=by rw[← hz,← Qab];simp
   have hZl:(Builtin.zeroCells ety.zero.cells (m+1)).toList.length=(m+1)*sz:=by simp[Builtin.zeroCells,hzs]
   have hZo:∀ v∈(Builtin.zeroCells ety.zero.cells (m+1)).toList,v.oneCell'=true:=by
    intro v hv;simp only[Builtin.zeroCells,Array.toList_map,List.mem_map] at hv;obtain⟨k,hk,rfl⟩:=hv;have hk2:k<(m+1)*sz:=by simpa [hzs] using hk
    have hpos:0<sz:=by
     rcases Nat.eq_zero_or_pos sz with h | h
     · rw[h] at hk2;simp at hk2
     · exact h
    have hlt:k % ety.zero.cells.size<ety.zero.cells.size:=Nat.mod_lt _ (by omega);rw[getElem!_pos ety.zero.cells (k % ety.zero.cells.size) hlt]
    apply hzo
    rw[← Qab]
    exact Array.getElem_mem_toList hlt
   have hst:=run_storeCells_at P g (i*sz) te (Builtin.zeroCells ety.zero.cells (m+1)).toList 0 cur w hg (by rw[hZl,h3];omega) hZo;obtain⟨inf,d,hi1,hd,hz1,_⟩:=Xd hte;have hzv:=Qjs hte w;refine⟨.tuple #[],w.setRow g (cur.toList.take (i*sz+0)++(Builtin.zeroCells ety.zero.cells (m+1)).toList++cur.toList.drop (i*sz+0+(Builtin.zeroCells ety.zero.cells (m+1)).toList.length)).toArray,?_,h _ ?_ (Ql8 w g _)⟩
   · simp[Builtin.clear_,run_underlying ht,hzv,hst]
   · generalize (Builtin.zeroCells ety.zero.cells (m+1)).toList=Z at hZl
     have hhe:=setRow_heap w g cur (cur.toList.take (i*sz+0)++Z++cur.toList.drop (i*sz+0+Z.length)).toArray te (0,0) hg;have hil:(l.take i).length=i:=by rw[List.length_take];omega
     refine⟨by rw[Qfd hsz],.inr ⟨g,c,_,by rw[hil],hb,hhe,by rw[hil];omega,h2,?_,?_⟩⟩
     · simp[hZl]
       omega
     · rw[hil,Qlo hsz,← h4,List.take_take]
       simp only[List.toList_toArray,Nat.add_zero];rw[List.append_assoc,List.take_append];have e1:(cur.toList.take (i*sz)).length=i*sz:=by simp;omega
       rw[e1,Nat.sub_self,List.take_zero,List.append_nil,List.take_take,Nat.min_self,Nat.min_eq_left (by omega)]
end
theorem Qfq {α:Type} (q:α→Bool) (l:List α) (k:Nat) (h:k<l.length):(l.take (k+1)).filter q=(l.take k).filter q++if q l[k]=true then [l[k]] else []:=by
 rw[Qiu l k h,List.filter_append]
 congr 1
 by_cases hq:q l[k]=true
 · simp[hq]
 · simp[hq]
theorem Xbt:Tryz.prog.underlying 23=some (.slice 38):=by kernel_rfl
def Qvf (s:WS) (person:ByteArray):List Ev:=s.es.filter fun e => !Qyn person e
def Qei (width:Int) (s:WS) (person:ByteArray):WS :=
 if s.es.any (Qyn person)=true then⟨Qvf s person,s.any,s.last,s.ad,Q7 s.fg person true,Ql width (Qvf s person)⟩
 else { s with fg:=Q7 s.fg person true }
theorem Q20 {a b:Ev} (h:Qfz a b=1):Qx b a=true:=by
 cases hl:Qx b a with
 | true=>rfl
 | false =>
   cases hr:Qx a b with
   | true =>
     have:=Qbx a b;rw[hr,h] at this
     simp at this
   | false =>
     have:=(Qhy a b).2 (Qey hr hl);omega
structure Qyu (c:Cfg) (s:WS):Prop where
 ct:s.ct=Ql c.width s.es
 may:∀ x∈s.es,Xn x=true
 rise:Rise s.es
 last:s.any=true→∀ x∈s.es,x=s.last∨Qx x s.last=true
 none:s.any=false→s.es = []
theorem Xdw (c:Cfg):Qyu c WS0:=⟨rfl,by simp[WS0],List.Pairwise.nil,by simp[WS0],by simp[WS0]⟩
def Q9v (s:WS) (e:Ev):Int :=
 if Xn e=false then 1
 else if(s.any && !decide (Qfz e s.last=1))=true then 10
 else if(Qe s.ad (Xb7 e)).getD false=true then 7
 else if((Qe s.fg e.person).getD false && !decide (e.kind=14))=true then 12
 else 0
def addN (width:Int) (s:WS) (e:Ev):WS:=if e.kind=14 then Qei width (Qya width s e) e.person else Qya width s e
def Q9w (width:Int) (s:WS) (e:Ev):WS:=if Q9v s e=0 then addN width s e else s
theorem Qyu.ahead {c:Cfg} {s:WS} (h:Qyu c s) {e:Ev} (hr:(s.any && !decide (Qfz e s.last=1))=false):∀ x∈s.es,Qx x e=true:=by
 intro x hx
 cases ha:s.any with
 | false=>rw[h.none ha] at hx;simp at hx
 | true =>
   rw[ha] at hr;have hc:Qfz e s.last=1:=by simpa using hr
   have hl:=Q20 hc;rcases h.last ha x hx with h | h
   · rw[h];exact hl
   · exact Qn2 h hl
theorem Qyu.put {c:Cfg} {s:WS} (h:Qyu c s) {e:Ev} (hm:Xn e=true) (hr:(s.any && !decide (Qfz e s.last=1))=false):Qyu c (Qya c.width s e):=by
 have ha:=h.ahead hr;refine⟨?_,?_,?_,fun _ => ?_,fun h=>by cases h⟩
 · show Qcx c.width s.ct e=Ql c.width (s.es ++ [e])
   rw[Qbh,h.ct]
 · intro x hx
   rcases List.mem_append.1 (show x∈s.es ++ [e] from hx) with hx | hx
   · exact h.may x hx
   · rw[List.mem_singleton] at hx;rw[hx];exact hm
 · show Rise (s.es ++ [e])
   unfold Rise;rw[List.pairwise_append];refine⟨h.rise,List.pairwise_singleton _ _,fun a ha' b hb => ?_⟩;rw[List.mem_singleton] at hb;rw[hb]
   exact ha a ha'
 · intro x hx
   rcases List.mem_append.1 (show x∈s.es ++ [e] from hx) with hx | hx
   · exact .inr (ha x hx)
   · rw[List.mem_singleton] at hx;exact .inl hx
theorem Qyu.forget {c:Cfg} {s:WS} (h:Qyu c s) (person:ByteArray):Qyu c (Qei c.width s person):=by
 unfold Qei
 split
 · refine⟨rfl,fun x hx=>h.may x (List.mem_filter.1 hx).1,h.rise.sublist List.filter_sublist,fun ha x hx=>h.last ha x (List.mem_filter.1 hx).1,fun ha => ?_⟩
   show Qvf s person = []
   unfold Qvf;rw[h.none ha]
   rfl
 · exact⟨h.ct,h.may,h.rise,h.last,h.none⟩
theorem Qyu.add {c:Cfg} {s:WS} (h:Qyu c s) (e:Ev):Qyu c (Q9w c.width s e):=by
 unfold Q9w
 split
 · next h0 =>
   unfold Q9v at h0
   split at h0
   · cases h0
   · next hm =>
     split at h0
     · cases h0
     · next hr =>
       have hm:Xn e=true:=by simpa using hm
       have hr:(s.any && !decide (Qfz e s.last=1))=false:=by simpa using hr
       unfold addN
       split
       · exact(h.put hm hr).forget _
       · exact h.put hm hr
 · exact h
theorem Qcr {l:List Ev} {p:ByteArray}:Qcb l p=true↔∃ x∈l,x.kind=14∧x.person=p:=by
 unfold Qcb;rw[List.any_eq_true]
 simp
theorem Qu5 {l l':List Ev} (h:∀ x,x.kind=14→(x∈l↔x∈l')) (p:ByteArray):Qcb l p=Qcb l' p:=by
 rw[Bool.eq_iff_iff,Qcr,Qcr];constructor <;> rintro ⟨x,hx,h1,h2⟩
 · exact⟨x,(h x h1).1 hx,h1,h2⟩
 · exact⟨x,(h x h1).2 hx,h1,h2⟩
theorem Xax {l l':List Ev} (h:∀ x,x.kind=14→(x∈l↔x∈l')) (e:Ev):Qbv l e=Qbv l' e:=by
 unfold Qbv;rw[Qu5 h]
theorem Q3s {l:List Ev} {e:Ev} (h:e.kind=14):Qbv l e=true:=by unfold Qbv;rw[decide_eq_true h,Bool.or_true]
theorem Qn1 {l:List Ev} {x:Ev} (h:x.kind=14):x∈Qem l↔x∈l:=by
 unfold Qem;rw[List.mem_filter]
 exact⟨fun h=>h.1,fun h'=>⟨h',Q3s h⟩⟩
theorem Q0c {l:List Ev}:∀ x∈Qem l,Qbv (Qem l) x=true:=fun x hx=>by
 rw[Xax (fun y hy=>Qn1 hy)]
 exact(List.mem_filter.1 hx).2
theorem Qsh {l:List Ev} (h:∀ x∈l,Qbv l x=true):Qem l=l:=List.filter_eq_self.2 h
def Qvr (z:List Ev) (f:Ev):List Ev:=z.filter fun e => !decide (e.person=f.person)||decide (e.kind=14)
theorem Qvk {z:List Ev} {f:Ev} (hz:∀ x∈z,Qbv z x=true) (hf:f.kind=14):Qem (z ++ [f])=Qvr z f ++ [f]:=by
 unfold Qem Qvr;rw[List.filter_append]
 congr 1
 · refine List.filter_congr fun x hx => ?_
   have h1:=hz x hx;rw[Bool.eq_iff_iff];unfold Qbv at h1 ⊢;simp only[Bool.or_eq_true,Bool.not_eq_true',decide_eq_true_eq,decide_eq_false_iff_not] at h1 ⊢
   by_cases hk:x.kind=14
   · simp[hk]
   · simp only[hk,or_false] at h1 ⊢
     constructor
     · intro h2 he
       rw[Qcr.2 ⟨f,by simp,hf,he.symm⟩] at h2;cases h2
     · intro hne
       cases hg:Qcb (z ++ [f]) x.person with
       | false=>rfl
       | true =>
         obtain⟨y,hy,h3,h4⟩:=Qcr.1 hg;rcases List.mem_append.1 hy with hy | hy
         · rw[Qcr.2 ⟨y,hy,h3,h4⟩] at h1;cases h1
         · rw[List.mem_singleton.1 hy] at h4;exact absurd h4.symm hne
 · rw[List.filter_cons,Q3s hf];rfl
def Xdl (o:Option Ev) (x:Ev):Bool:=match o with | some y => !Qx y x | .none=>false
def Q6l (all inn:List Ev) (x:Ev):Int :=
 if Xn x=false then 1
 else if Xdl all.getLast? x=true then 10
 else if all.any (fun e=>decide (idE e=idE x))=true then 7
 else if(Qcb inn x.person && !decide (x.kind=14))=true then 12
 else 0
structure Qot (c:Cfg) (s:WS) (all:List Ev):Prop where
 inv:Qyu c s
 nil:s.any=false→all = []
 last:s.any=true→all.getLast? = some s.last
 ad:∀ i,(Qe s.ad i).getD false=all.any (fun e=>decide (idE e=i))
 fg:∀ p,(Qe s.fg p).getD false=Qcb s.es p
 left:∀ x∈s.es,Qbv s.es x=true
theorem Q7c (e y:Ev):(!decide (Qfz e y=1)) = !Qx y e:=by
 cases h:Qx y e with
 | true=>rw[Qo1 h];rfl
 | false =>
   cases h2:decide (Qfz e y=1) with
   | false=>rfl
   | true=>rw[Q20 (of_decide_eq_true h2)] at h;cases h
theorem Qot.answer {c:Cfg} {s:WS} {all:List Ev} (h:Qot c s all) (x:Ev):Q9v s x=Q6l all s.es x:=by
 unfold Q9v Q6l
 have h1:(s.any && !decide (Qfz x s.last=1))=Xdl all.getLast? x:=by
  cases ha:s.any with
  | false=>rw[h.nil ha];rfl
  | true=>rw[h.last ha,Bool.true_and,Q7c];rfl
 rw[h1,h.ad,h.fg]
 rfl
theorem add_zero (c:Cfg):Qot c WS0 []:=⟨Xdw c,fun _=>rfl,fun h=>(by cases h),fun _=>rfl,fun _=>rfl,fun x hx=>(by cases hx)⟩
theorem Qot.step {c:Cfg} {s:WS} {all:List Ev} (h:Qot c s all) {x:Ev} (h0:Q9v s x=0):Qot c (Q9w c.width s x) (all ++ [x])∧(Q9w c.width s x).es=Qem (s.es ++ [x]):=by
 have hW:Q9w c.width s x=addN c.width s x:=if_pos h0;have hw:=h.inv.add x
 have hg:(Qcb s.es x.person && !decide (x.kind=14))=false:=by
  rw[h.answer] at h0;unfold Q6l at h0
  split at h0
  · cases h0
  split at h0
  · cases h0
  split at h0
  · cases h0
  split at h0
  · cases h0
  · next hq=>simpa using hq
 have hlast:(all ++ [x]).getLast? = some x:=by simp
 have hne:¬ (all ++ [x] = []):=by simp
 have had:∀ i,(Qe (Q7 s.ad (Xb7 x) true) i).getD false=(all ++ [x]).any (fun e=>decide (idE e=i)):=fun i=>by
  rw[Xg,List.any_append,← h.ad]
  by_cases hi:i=Xb7 x
  · rw[if_pos hi]
    have:idE x=i:=hi.symm
    simp[this]
  · rw[if_neg hi]
    have:¬ idE x=i:=fun e=>hi e.symm
    simp[this]
 rw[hW] at hw ⊢;unfold addN at hw ⊢
 by_cases hk:x.kind=14
 · rw[if_pos hk] at hw ⊢
   have hE:(Qei c.width (Qya c.width s x) x.person).es=Qem (s.es ++ [x]):=by
    have h1:Qvf (Qya c.width s x) x.person=Qem (s.es ++ [x]):=by
     rw[Qvk h.left hk];unfold Qvf Qvr Qya;simp only[List.filter_append,List.filter_cons,List.filter_nil];unfold Qyn
     simp[hk]
    unfold Qei
    split
    · exact h1
    · next hn =>
      rw[← h1];unfold Qvf
      symm
      rw[List.filter_eq_self];intro e he;have hn:(Qya c.width s x).es.any (Qyn x.person)=false:=by simpa using hn
      rw[List.any_eq_false] at hn
      simpa using hn e he
   refine⟨⟨hw,?_,?_,?_,?_,?_⟩,hE⟩
   · unfold Qei;split <;> exact fun h=>by cases h
   · unfold Qei;split <;> exact fun _=>hlast
   · unfold Qei;split <;> exact had
   · intro p
     rw[hE]
     have h1:(Qe (Qei c.width (Qya c.width s x) x.person).fg p).getD false=(Qe (Q7 s.fg x.person true) p).getD false:=by
      unfold Qei;split <;> rfl
     rw[h1,Xg];have h2:Qcb (Qem (s.es ++ [x])) p=Qcb (s.es ++ [x]) p:=Qu5 (fun y hy=>Qn1 hy) p;rw[h2]
     by_cases hp:p=x.person
     · rw[if_pos hp]
       exact(Qcr.2 ⟨x,by simp,hk,hp.symm⟩).symm
     · rw[if_neg hp,h.fg]
       unfold Qcb;rw[List.any_append];have:¬ x.person=p:=fun e=>hp e.symm
       simp[this]
   · rw[hE];exact Q0c
 · rw[if_neg hk] at hw ⊢
   have hgone:Qcb s.es x.person=false:=by simpa [hk] using hg
   have hG:∀ p,Qcb (s.es ++ [x]) p=Qcb s.es p:=Qu5 fun y hy=>by
    rw[List.mem_append,List.mem_singleton]
    exact⟨fun h=>h.elim id fun e=>absurd (e ▸ hy) hk,.inl⟩
   have hK:∀ y∈s.es ++ [x],Qbv (s.es ++ [x]) y=true:=fun y hy=>by
    unfold Qbv;rw[hG];rcases List.mem_append.1 hy with hy | hy
    · exact h.left y hy
    · rw[List.mem_singleton.1 hy,hgone];rfl
   refine⟨⟨hw,fun h=>(by cases h),fun _=>hlast,had,fun p => ?_,hK⟩,(Qsh hK).symm⟩;show (Qe s.fg p).getD false=Qcb (s.es ++ [x]) p
   rw[hG,h.fg]
theorem Q3t {z:List Ev} (h:∀ x∈z,Qbv z x=true) (k:Nat):∀ x∈z.take k,Qbv (z.take k) x=true:=fun x hx=>by
 have h1:=h x (List.mem_of_mem_take hx);unfold Qbv at h1 ⊢;rw[Bool.or_eq_true] at h1 ⊢;refine h1.imp (fun h => ?_) id;rw[Bool.not_eq_true'] at h ⊢
 cases hg:Qcb (z.take k) x.person with
 | false=>rfl
 | true =>
   obtain⟨y,hy,h3,h4⟩:=Qcr.1 hg;rw[Qcr.2 ⟨y,List.mem_of_mem_take hy,h3,h4⟩] at h;cases h
theorem Q6m {z:List Ev} (hm:∀ x∈z,Xn x=true) (hr:Rise z) (hi:z.Pairwise (fun a b=>idE a≠idE b)) (hk:∀ x∈z,Qbv z x=true) (k:Nat) (hlt:k<z.length):Q6l (z.take k) (z.take k) z[k]=0:=by
 have hin:z[k]∈z:=List.getElem_mem hlt;have hsp:z.take (k+1)=z.take k ++ [z[k]]:=List.take_succ_eq_append_getElem hlt;have hr2:Rise (z.take k ++ [z[k]]):=hsp ▸ hr.sublist (List.take_sublist _ _);have hi2:(z.take k ++ [z[k]]).Pairwise (fun a b=>idE a≠idE b):=hsp ▸ hi.sublist (List.take_sublist _ _);unfold Rise at hr2;rw[List.pairwise_append] at hr2 hi2;unfold Q6l;rw[if_neg (by rw[hm _ hin];decide),if_neg,if_neg,if_neg]
 · have h1:=hk _ hin
   unfold Qbv at h1
   cases hg:Qcb (z.take k) z[k].person with
   | false=>simp
   | true =>
     obtain⟨y,hy,h3,h4⟩:=Qcr.1 hg;rw[Qcr.2 ⟨y,List.mem_of_mem_take hy,h3,h4⟩] at h1
     simpa using h1
 · rw[List.any_eq_true]
   rintro ⟨y,hy,he⟩
   exact hi2.2.2 y hy z[k] (by simp) (of_decide_eq_true he)
 · cases hq:(z.take k).getLast? with
   | none=>simp[Xdl]
   | some y =>
     have:=hr2.2.2 y (List.mem_of_getLast? hq) z[k] (by simp)
     simp[this,Xdl]
theorem Qot.next {c:Cfg} {s:WS} {z:List Ev} (hm:∀ x∈z,Xn x=true) (hr:Rise z) (hi:z.Pairwise (fun a b=>idE a≠idE b)) (hk:∀ x∈z,Qbv z x=true) (k:Nat) (hlt:k<z.length) (h:Qot c s (z.take k)) (he:s.es=z.take k):Q9v s z[k]=0∧Qot c (Q9w c.width s z[k]) (z.take (k+1))∧(Q9w c.width s z[k]).es=z.take (k+1):=by
 have h0:Q9v s z[k]=0:=by rw[h.answer,he];exact Q6m hm hr hi hk k hlt
 have hsp:z.take (k+1)=z.take k ++ [z[k]]:=List.take_succ_eq_append_getElem hlt;obtain⟨h1,h2⟩:=h.step h0;rw[he,← hsp] at h2;rw[← hsp] at h1
 exact⟨h0,h1,h2.trans (Qsh (Q3t hk _))⟩
end Go.Proofs.YtohkipkjleldpaaGreatDoor
