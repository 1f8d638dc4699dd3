import Derived.Test.YtnpacgccajekgaaGreatDoorGYC
set_option linter.all false
namespace Go.Proofs.YtnpacgccajekgaaGreatDoor
open Go.Se Go.RowKit Go.Sort Go.Shelf
theorem Xj8:OneCell Value.string:=fun _=>rfl
theorem Q9x{w g b e}{l:List Bj}(d:w.heap[g]?=some (.cells b e (0,0)))(i:b.toList.take l.length=l.map Value.string):Holds Value.string w g 0 l.toArray:=by
 intro a f;have h:a<l.length:=Su f;refine⟨?_,by simp[World.frozen?,d]⟩;have c:(b.toList.take l.length)[a]?=(l.map Value.string)[a]? := by rw[i]
 rw[Zbm,if_pos h,Zaf,Zb h]at c;rw[getElem!_pos l.toArray a f];simp only[World.cell?,d,Za6,List.getElem_toArray];simpa using c
theorem Qmu(enc:Bj->Value)(w blk off d k)(h:k≠blk):(putRow enc w blk off d).heap[k]?=w.heap[k]? := by
 unfold putRow mapBlock;simp only[Zce,if_neg (Ne.symm h)]
theorem Qjn(enc w blk off)(d:Array Bj):(putRow enc w blk off d).heap.size=w.heap.size:=by
 unfold putRow mapBlock;simp only[Zcp]
section
variable {P:Program}{ρ:Ren}
theorem Xcx(S:SlLaysF.n6 P ρ)(V:SlLaysF0.n6 P ρ)(cmp)(ar:Go.Sort.SWO (ltOf cmp))(N:Qql P (ρ.f 6)){f:Nat}{cb}(Y:∀args w,(callFunc f args).run P w=.ok (.enter f args) w)
 (l A c base w)(O:Own Qac 1 (ρ.t 24) base w A c l)(a8:l.length<1000000)
 (ae:∀x y w',(∀k,(∀a,A=some a->k≠a.block)->k<w.heap.size->w'.heap[k]?=w.heap[k]?)->Cal P f ([.string x,.string y]++cb.toList) w' fun r ax=>r=Vj (cmp x y)/\Gr w' ax) :
 Cal P (ρ.f 6) [.slice A l.length c,.func (.func f) #[] cb] w fun r w'=>r=.tuple #[]/\∃F,F.Perm l/\Srt (ltOf cmp) F/\SlT w' A F/\∀o,Ext o w->o.heap.size<=base->Ext o w':=by
 by_cases d:l=[]
 .subst d;refine Qae N (AnyF.slices_SortFunc_none V A c _ w) ?_;rintro w' rfl;exact⟨rfl,[],Za9 _,Srt.nil,Sl.nil,fun o h _=>h⟩
 .have bb:=O.sl Qv;have a9:0<l.length:=Zad.2 d;rcases O.2 with⟨_,E⟩|⟨g,cap,ay,D,az,L,a3,a4,a5,J⟩
  .omega
  injection D with aa _ ac;subst aa;subst ac;have H:Holds Value.string w g 0 l.toArray:=Q9x L (by rw[Zbl]at J;rw[J,show Qac=fun x=>[Value.string x] from rfl,Qfe]);have I:g<w.heap.size:=lt_of_block L
  have af:CmpLays1 P f cb Value.string cmp g 0 l.toArray.size w:=by
   intro m os s _ x y
   have al:∀k,(∀a,some (⟨g,0,none⟩:Addr)=some a->k≠a.block)->k<w.heap.size->(sortWorld Value.string w g 0 m s os).heap[k]?=w.heap[k]? := by
    intro k C a7;have an:k≠g:=C ⟨g,0,none⟩ rfl;have E:(putRow Value.string (Go.Sort.ahead w m) g 0 s).heap[k]?=(Go.Sort.ahead w m).heap[k]? := Qmu _ _ _ _ _ _ an;have bd:w.heap.size=(putRow Value.string (Go.Sort.ahead w m) g 0 s).heap.size:=by rw[Qjn];rfl
    have Z:=(Qdm (putRow Value.string (Go.Sort.ahead w m) g 0 s) os).block k Om;unfold sortWorld;rw[Z,E];rfl
   have:=(ae x y (sortWorld Value.string w g 0 m s os) al).2;have B:([Value.string x,Value.string y]++cb.toList).toArray=#[Value.string x,Value.string y]++cb:=by simp
   rw[B]at this;refine this.mono ?_;rintro e w' ⟨v,ag,D,q,aw,au⟩;exact⟨by rw[ag,D],q,aw,au⟩
  have K:=Any.slices_SortFunc S Value.string Xj8 cmp ar f cb g 0 c l.toArray w Y af H I (by simp;omega);rw[Za4]at K;refine Qae N K ?_;rintro w' ⟨b,n,os,R,aq,rfl⟩;have U:b.size=l.length:=Su R.1
  have ao:b.toList.Perm l:=by
   have:=R.2.2;have B:b.extract 0 l.length=b:=by rw[<- U];exact Array.extract_size
   have W:l.toArray.extract 0 l.length=l.toArray:=by simp
   rw[B,W]at this;simpa using this
  have ab:Holds Value.string (sortWorld Value.string w g 0 n b os) g 0 b:=(by unfold sortWorld;refine holds_grow _ _ _ _ _ _ ?_ (holds_putRow _ _ _ _ l.toArray b (holds_ahead _ _ _ _ _ _ H) (Su U));rw[Qjn];exact I);refine⟨rfl,b.toList,ao,?_,?_,?_⟩
  .unfold Srt;rw[Zaz];intro i j u z ai;have ah:i<b.size:=Su u;have aj:j<b.size:=Su z;have:=aq i j (Zt _) ai Om;rw[getElem!_pos b i ah,getElem!_pos b j aj]at this;simpa using this
  .intro i x u;have M:i<b.size:=by have:=(Zi.1 u).1;simpa using this
   refine⟨_,rfl,fun j v z=>?_⟩;have ak:j=0:=(by have:=(Zi.1 z).1;have e:(Qac x).length=1:=Qv x;omega);subst ak;have:=(ab i M).1;have hx:b[i]! = x:=by rw[getElem!_pos b i M];have:=Zi.1 u;simpa using this.2
   rw[hx,Za6]at this;rw[Q9,Qe7,Zbl,Zcf,this];simpa [Qac] using z
  .intro o d a0
   have av:Ext o (putRow Value.string (Go.Sort.ahead w n) g 0 b):=by
    refine⟨d.os,d.tape,d.output,?_,fun k C=>?_⟩
    .rw[Qjn];exact d.size
    .rw[Qmu _ _ _ _ _ _ Om];exact d.block k C
   exact av.trans (Qdm _ os)
theorem Qs3{a}(S:SlLaysZ.n8 P a){g:Nat}{lb}(d:∀args w,(callFunc g args).run P w=.ok (.enter g args) w)
 (s:Qql P (a.f 8)){w l N Q}(j:∀ss,Q ss->ss.Perm (l.map fun x=>x.data.toList))(C:N<=1000000000)(z:SeqGives Fence.wide 2 P g lb encStr Q N w) :
 Cal P (a.f 8) [.func (.func g) #[] lb] w fun r w'=>∃A c K,r=.slice A K.length c/\K.Perm l/\Own Qac 1 (a.t 26) w.heap.size w' A c K/\Ext w w':=by
 have k:=AnyZ.collect_in S Fence.wide 4 trivial trivial rfl Om g lb trivial d _ N (by unfold maxLen;omega) Om w z;refine⟨s,(callsIn_wide.1 k).mono ?_⟩;rintro e w' ⟨v,ss,rfl,u,y,_,m⟩;have n:=j ss u;obtain⟨K,b⟩:∃K:List Bj,K=ss.map (fun x=>(⟨x.toArray⟩:Bj)):=⟨_,rfl⟩;have i:K.Perm l:=(by have h:=n.map (fun x=>(⟨x.toArray⟩:Bj));rw[b];simpa [Zz,Function.comp_def] using h)
 obtain⟨A,c,B,o⟩:=Qcz (enc:=Qac) (l:=K) y (by rw[b];simp) (by
  rw[b,show Qac=fun x=>[Value.string x] from rfl,Qfe,Zz];rfl)
 exact⟨v,rfl,A,c,K,B,i,o,m⟩
end
end Go.Proofs.YtnpacgccajekgaaGreatDoor
namespace Go.Proofs.YtnpacgccajekgaaGreatDoor
open Go.Se Go.RowKit
open Go.ChangeMaps (setBlock)
section
variable {κ:Type}{enc:κ->Value}{P:Program}{w w':World}{r b:Nat}
theorem Qmh{α:Type}{p:α->Bool}:∀{E:List α} {j:Nat} {y:α},E[j]?=some y->p y=true->E.Pairwise (fun a b=>p a=true->p b=false)->E.eraseIdx j=E.filter (fun a=>!p a)
 |[],j,y,h,_,_=>by simp at h
 |a::E,0,y,h,d,c=>by
  obtain rfl:a=y:=Su h;rw[Zab]at c;rw[List.eraseIdx_zero,List.tail_cons,Zbr (by simp[d]),eq_comm,Zca];intro x hx;rw[c.1 x hx d];rfl
 |a::E,j+1,y,h,d,c=>by
  have h:E[j]?=some y:=Su h;rw[Zab]at c
  have e:p a=false:=by
   cases f:p a with
   |false=>rfl
   |true=>rw[c.1 y (Zap h) f]at d;cases d
  rw[List.eraseIdx_cons_succ,Zb4 (by simp[e]),Qmh h d c.2]
theorem Qk0{E:List (Ent κ)}(h:E.Pairwise (fun x y=>x.2.2<y.2.2)):∀x∈E,∀y∈E,x.2.2=y.2.2->x=y:=by
 induction E with
 |nil=>intro x hx;simp at hx
 |cons z E e =>
  intro x hx y d c;rw[Zab]at h;rcases Zr.1 hx with a|a<;>rcases Zr.1 d with b|b
  .rw[a,b]
  .subst a;have:=h.1 _ b;omega
  .subst b;have:=h.1 _ a;omega
  .exact e h.2 x a y b c
def leftB(a:κ×Value->Bool)(V:List (Ent κ))(x:Ent κ):Bool:= !decide (x.2.2∈V.map (·.2.2))||a (x.1,x.2.1)
theorem Qrw{a V}{z y:Ent κ}(e:¬z.2.2=y.2.2):leftB a (V++[y]) z=leftB a V z:=by
 unfold leftB;have b:z.2.2∈(V++[y]).map (·.2.2)↔z.2.2∈V.map (·.2.2):=(by rw[Zp,Zj];exact⟨fun h=>h.elim id fun h=>absurd (Su h) e,.inl⟩);rw[decide_eq_decide.2 b]
structure Qyr(w:World)(r b:Nat)(enc:κ->Value)(kp:κ×Value->Bool)(E0 V Vi:List (Ent κ)):Prop where
 at_:∃clock since c0,Xd8 w b enc (E0.filter (leftB kp V)) clock/\w.heap[r]?=some (.mapIter (some b) since (Vi.map fun x:Ent κ=>x.2.2).toArray c0)/\(∀x∈E0,x.2.2<since)/\since<=c0/\since<=clock
 rising:E0.Pairwise (fun x y=>x.2.2<y.2.2)
 keys:E0.Pairwise (fun x y=>x.1≠y.1)
 nodup:Vi.Nodup
 sub:∀x∈Vi,x∈E0
def Qlc(w:World)(r b:Nat)(enc:κ->Value)(c:κ×Value->Bool)(L vs:List (κ×Value)):Prop:=∃a V,strip a=L/\strip V=vs/\Qyr w r b enc c a V V
def Qna(w:World)(r b:Nat)(enc:κ->Value)(c:κ×Value->Bool)(L vs:List (κ×Value))(x:κ×Value):Prop:=∃a V y,strip a=L/\strip V=vs/\(y.1,y.2.1)=x/\y∈a/\y∉V/\Qyr w r b enc c a V (V++[y])
variable {kp:κ×Value->Bool}{L vs:List (κ×Value)}{x:κ×Value}
theorem Qyr.keep{c V d}(h:Qyr w r b enc kp c V d)(f:w'.heap[b]?=w.heap[b]?)(g:w'.heap[r]?=w.heap[r]?):Qyr w' r b enc kp c V d:=by
 obtain⟨clock,m,e,a,i,j,k,l⟩:=h.at_;exact⟨⟨clock,m,e,⟨f.trans a.block,a.rising,a.below,a.keys⟩,g.trans i,j,k,l⟩,h.rising,h.keys,h.nodup,h.sub⟩
theorem Qyr.lt{d V e}(h:Qyr w r b enc kp d V e):r<w.heap.size/\b<w.heap.size/\r≠b:=by
 obtain⟨clock,g,f,c,a,_⟩:=h.at_;refine⟨lt_of_block a,lt_of_block c.block,?_⟩;rintro rfl;rw[c.block]at a;simp at a
theorem Qlc.keep(h:Qlc w r b enc kp L vs)(e:w'.heap[b]?=w.heap[b]?)(f:w'.heap[r]?=w.heap[r]?):Qlc w' r b enc kp L vs:=by
 obtain⟨a,V,c,d,h⟩:=h;exact⟨a,V,c,d,h.keep e f⟩
theorem Qna.keep(h:Qna w r b enc kp L vs x)(i:w'.heap[b]?=w.heap[b]?)(j:w'.heap[r]?=w.heap[r]?):Qna w' r b enc kp L vs x:=by
 obtain⟨a,V,y,c,d,e,f,g,h⟩:=h;exact⟨a,V,y,c,d,e,f,g,h.keep i j⟩
theorem Qlc.lt(h:Qlc w r b enc kp L vs):r<w.heap.size/\b<w.heap.size/\r≠b:=by
 obtain⟨a,V,c,d,h⟩:=h;exact h.lt
theorem Qna.lt(h:Qna w r b enc kp L vs x):r<w.heap.size/\b<w.heap.size/\r≠b:=by
 obtain⟨a,V,y,c,d,e,f,g,h⟩:=h;exact h.lt
theorem Qna.ext(h:Qna w r b enc kp L vs x)(hx:Ext w w'):Qna w' r b enc kp L vs x:=h.keep (hx.block _ h.lt.2.1) (hx.block _ h.lt.1)
theorem Qlc.ext(h:Qlc w r b enc kp L vs)(hx:Ext w w'):Qlc w' r b enc kp L vs:=h.keep (hx.block _ h.lt.2.1) (hx.block _ h.lt.1)
theorem Iter.del(h:Iter w r b enc L []):Qlc w r b enc kp L []:=by
 obtain⟨E,c,V,n,d,a,rfl,i,g,j,k,m,f,l⟩:=h
 obtain rfl:V=[]:=by
  cases V with
  |nil=>rfl
  |cons y V=>simp[strip]at m
 have e:E.filter (leftB kp [])=E:=(by rw[Zca];intro x _;simp[leftB]);exact⟨E,[],rfl,rfl,⟨c,n,d,by rw[e];exact a,i,g,j,k⟩,a.rising,a.keys,f,l⟩
theorem Qna.kept(h:Qna w r b enc kp L vs x)(k:kp x=true):Qlc w r b enc kp L (vs++[x]):=by
 obtain⟨a,V,y,d,f,rfl,g,v,h⟩:=h;refine⟨a,V++[y],d,by rw[<- f];simp[strip],?_⟩;obtain⟨clock,u,c,i,l,n,o,s⟩:=h.at_
 have j:a.filter (leftB kp (V++[y]))=a.filter (leftB kp V):=by
  refine Zda fun z m=>?_
  by_cases e:z.2.2=y.2.2
  .obtain rfl:=Qk0 h.rising z m y g e;unfold leftB;rw[k];simp
  .exact Qrw e
 exact⟨⟨clock,u,c,by rw[j];exact i,l,n,o,s⟩,h.rising,h.keys,h.nodup,h.sub⟩
theorem Q4w[DecidableEq κ]{E clock mt e h ty}(m:P.underlying mt=some (.map e h))(K:Qu6 P e enc)(a:Xd8 w b enc E clock){y}(g:y∈E) :
 ∃j,E[j]?=some y/\(Builtin.delete_ #[mt,e] ty #[.map (some b),enc y.1]).run P w=.ok (.tuple #[]) (setBlock w b (.map ((E.eraseIdx j).map (mkE enc)).toArray clock)):=by
 have f:=K.find w y.1 E
 cases c:Qfq E y.1 0 with
 |none=>exact absurd rfl ((Qif c).1 y g)
 |some p =>
  obtain⟨j,v0⟩:=p;obtain⟨n,s,v,d,_⟩:=Qig c;obtain rfl:j=n:=Om;have o:(y.1,v0,s)=y:=Qi5 a.keys (Zap d) g rfl;refine⟨j,by rw[d,o],?_⟩;have u:((E.map (mkE enc)).toArray.eraseIdxIfInBounds j)=((E.eraseIdx j).map (mkE enc)).toArray:=(by unfold Array.eraseIdxIfInBounds;have l:j<(E.map (mkE enc)).toArray.size:=(by have:=(Zi.1 d).1;simpa using this);rw[dif_pos l];apply Zci;simp[Go.ChangeMaps.map_eraseIdx]);rw[c]at f;have i:=Qdo (P:=P) a.block;have k:=Qgw (P:=P) (.map ((E.eraseIdx j).map (mkE enc)).toArray clock) a.block;have r:=K.check w y.1 (E.map (mkE enc)).toArray.isEmpty;simp[Builtin.delete_,run_underlying m,i,K.check,f,setBlock];rw[<- Go.ChangeMaps.map_eraseIdx,k];rfl
theorem Qz8[DecidableEq κ]{mt l A ty}(N:P.underlying mt=some (.map l A))(K:Qu6 P l enc)(h:Qna w r b enc kp L vs x)(F:kp x=false){R}
 (C:∀w',Qlc w' r b enc kp L (vs++[x])->Only w w' b->R (.tuple #[]) w'):Qi7 P (Builtin.delete_ #[mt,l] ty #[.map (some b),enc x.1]) w R:=by
 obtain⟨ae,ab,J⟩:=h.lt;obtain⟨d,V,y,s,u,rfl,i,v,h⟩:=h;obtain⟨clock,aa,o,f,I,W,Y,Z⟩:=h.at_;have S:¬y.2.2∈V.map (·.2.2):=fun H=>(by obtain⟨z,g,D⟩:=Zh.1 H;have U:=h.sub z (by simp[g]);have:=Qk0 h.rising z U y i D;exact v (this▸g))
 have O:y∈d.filter (leftB kp V):=Ze.2 ⟨i,by unfold leftB;simp only[S,decide_false,Zde,Bool.true_or]⟩;obtain⟨j,E,M⟩:=Q4w (ty:=ty) N K f O;have n:=Qao w b (.map (((d.filter (leftB kp V)).eraseIdx j).map (mkE enc)).toArray clock);refine⟨_,_,M,C _ ⟨d,V++[y],s,by rw[<- u];simp[strip],⟨⟨clock,aa,o,?_,(n.block r J).trans I,W,Y,Z⟩,h.rising,h.keys,h.nodup,h.sub⟩⟩ n⟩
 have m:(d.filter (leftB kp V)).eraseIdx j=d.filter (leftB kp (V++[y])):=by
  rw[Qmh (p:=fun z:Ent κ=>decide (z.2.2=y.2.2)) E (by simp) (f.rising.imp fun {a c} ac B=>by
   simp only[decide_eq_true_eq]at B;simp only[decide_eq_false_iff_not];omega),List.filter_filter]
  refine Zda fun z g=>?_
  by_cases e:z.2.2=y.2.2
  .obtain rfl:=Qk0 h.rising z g y i e;unfold leftB;rw[F];simp
  .rw[Qrw e];simp[e]
 rw[m];have k:(d.filter (leftB kp (V++[y]))).Sublist (d.filter (leftB kp V)):=by rw[<- m];exact List.eraseIdx_sublist _ _
 exact⟨Qaf f.block,f.rising.sublist k,fun z g=>f.below z (k.subset g),f.keys.sublist k⟩
theorem Xau{ty}(hi:Qlc w r b enc kp L vs){R}
 (Y:MapAt w b enc (L.filter kp)->R (.tuple #[.bool false]) w)
 (hstep:∀x w',x∈L->vs.length<L.length->Qna w' r b enc kp L vs x->Only w w' r->(∀j,j.heap[r]?=w'.heap[r]? -> j.heap[b]?=w'.heap[b]? -> (Instr.entry (Pj r)).run P j=.ok (.tuple #[enc x.1,x.2]) j)->R (.tuple #[.bool true,enc x.1,x.2]) w') :
 Qi7 P (Instr.next (Pj r) false ty) w R:=by
 obtain⟨_,_,I⟩:=hi.lt;obtain⟨f,V,rfl,rfl,h⟩:=hi;obtain⟨c,i,m,g,v,F,ac,J⟩:=h.at_;have ah:=Qk0 h.rising;have aa:∀x∈((f.filter (leftB kp V)).map (mkE enc)).toArray.toList,x.born<i:=(by intro x hx;simp only[Zh]at hx;obtain⟨y,d,rfl⟩:=hx;exact F y (Ze.1 d).1);rcases run_next_at (P:=P) w ty r b i m _ _ c v g.block aa ac with⟨N,A⟩|⟨e,n,M,K,A⟩
 .refine⟨_,_,A,Y ?_⟩
  have U:∀x∈f,x.2.2∈V.map (·.2.2):=by
   intro x hx;refine Classical.byContradiction fun D=>?_
   have ae:x∈f.filter (leftB kp V):=Ze.2 ⟨hx,by unfold leftB;simp only[D,decide_false,Zde,Bool.true_or]⟩;have s:leftOf ((f.filter (leftB kp V)).map (mkE enc)).toArray (V.map fun x:Ent κ=>x.2.2).toArray=#[]:=Array.eq_empty_of_size_eq_zero N;unfold leftOf at s;rw[Array.filter_eq_empty_iff]at s;have:=s (mkE enc x) (by rw[List.mem_toArray];exact Zh.2 ⟨x,ae,rfl⟩);simp[mkE]at this;obtain⟨a,ag,B⟩:=this;exact D (Zh.2 ⟨_,B,rfl⟩)
  have Z:f.filter (leftB kp V)=f.filter fun x=>kp (x.1,x.2.1):=by
   refine Zda fun z af=>?_
   unfold leftB;simp only[U z af,decide_true,Zcz,Bool.false_or]
  rw[Z]at g;refine⟨_,c,g,?_⟩;unfold strip;rw[List.filter_map];rfl
 .unfold leftOf at n;simp only[Array.mem_toList_iff,Array.mem_filter,List.mem_toArray,Zh]at n;obtain⟨⟨x,hx,rfl⟩,E⟩:=n;have l:=(Ze.1 hx).1;have C:x∉V:=(by intro B;simp[mkE]at E;exact E x.1 x.2.1 B);have H:M.heap=w.heap:=by rcases K with rfl|rfl<;>rfl
  have u:Only w (setBlock M r (.mapIter (some b) i ((V.map fun x:Ent κ=>x.2.2).toArray.push (mkE enc x).born) c)) r:=by
   rcases K with rfl|rfl
   .exact Qao _ _ _
   .have k:=Qao w.drew r (.mapIter (some b) i ((V.map fun x:Ent κ=>x.2.2).toArray.push (mkE enc x).born) c);exact⟨k.os,k.tape,k.output,k.size,k.block⟩
  refine⟨_,_,A,hstep (x.1,x.2.1) _ (Zh.2 ⟨x,l,rfl⟩) ?_ ⟨f,V,x,rfl,rfl,rfl,l,C,⟨⟨c,i,c,⟨(u.block b (Ne.symm I)).trans g.block,g.rising,g.below,g.keys⟩,?_,F,J,J⟩,h.rising,h.keys,?_,?_⟩⟩ u ?_⟩
  .have:(x::V).length<=f.length:=Qeg (Zbp.2 ⟨C,h.nodup⟩) (fun y d=>by
    rcases Zr.1 d with rfl|d
    .exact l
    .exact h.sub y d)
   simp[strip]at this⊢;omega
  .rw[Qaf (o:= .mapIter (some b) i (V.map fun x:Ent κ=>x.2.2).toArray m) (by rw[H];exact v)];simp[mkE]
  .rw[Zc5];exact⟨h.nodup,by simp,fun a S y d=>by simp at d;subst d;rintro rfl;exact C S⟩
  .intro y d;rcases Zj.1 d with d|d
   .exact h.sub y d
   .simp at d;subst d;exact l
  .intro j O k;have ab:j.heap[r]?=some (.mapIter (some b) i ((V.map fun x:Ent κ=>x.2.2).toArray.push (mkE enc x).born) c):=(by rw[O,Qaf (o:= .mapIter (some b) i (V.map fun x:Ent κ=>x.2.2).toArray m) (by rw[H];exact v)]);have W:j.heap[b]?=some (.map ((f.filter (leftB kp V)).map (mkE enc)).toArray c):=by rw[k,(u.block b (Ne.symm I))];exact g.block
   refine run_entry_at j r b i _ _ c (mkE enc x) ab W (by rw[List.toList_toArray];exact Zh.2 ⟨x,hx,rfl⟩) ?_;simp only[Zz];rw[Zaj,Z5];exact g.rising.imp (fun h e=>by simp[mkE]at e;omega)
end
end Go.Proofs.YtnpacgccajekgaaGreatDoor
namespace Go.Proofs.YtnpacgccajekgaaGreatDoor
open Go.Se Go.RowKit Go.Sort
theorem Xl1:Qle Tryz.prog 433 152 itC 7 80:=⟨by kernel_rfl,⟨_,ty152_ok,rfl,rfl⟩,by152,by decide,by decide,fun _=>rfl,Qtj⟩
instance:Inhabited It:=⟨Qb0⟩
def Q4o(a b:It):Int:=orL [Qc5 b.born a.born,Qcp a.name b.name]
theorem Qtt(a b):ltOf Q4o a b=Qmm (Xld a) (Xld b):=by rw[<- Qlt];rfl
theorem Q80:SWO (ltOf Q4o) where
 irrefl x:=by rw[Qtt];exact Qfd.irrefl _
 trans x y z h k:=by rw[Qtt]at*;exact Qfd.trans _ _ _ h k
 ntrans x y z h k:=by rw[Qtt]at*;exact Qfd.ntrans _ _ _ h k
theorem Q4p(a b w):Cal Tryz.prog 314 [.agg (itC a).toArray,.agg (itC b).toArray] w fun r w'=>r=Vj (Q4o a b)/\Gr w w':=by
 refine Fi Tryz.func314 rfl _ rfl rfl (Hh ?_);intro g l i;refine Hh ?_;intro h c f;have d:At c g _ (itC a):=i.At.ext f.ext;have e:At c h _ (itC b):=f.At;have hx:=(Qam i).trans ((Qam f).trans (Gr.drew c));refine Hh ?_;refine Dr .ext [0,1,2,3,5,6,7,8,4] [9,10,11,12] (Hh ?_);replace d:At c.drew g _ _:=d;replace e:At c.drew h _ _:=e;generalize c.drew=m at d e hx⊢;refine⟨_,e.one rfl,Hh ?_⟩;refine⟨_,d.one rfl,Hh ?_⟩;refine⟨_,d.one rfl,Hh ?_⟩;refine⟨_,e.one rfl,Hh ?_⟩;refine(Qjb _ _ _).mono ?_;rintro _ _ ⟨rfl,rfl⟩;refine⟨Ext.refl _,Hh ?_⟩;refine(Qaj _ _ _).mono ?_;rintro _ _ ⟨rfl,rfl⟩;refine Hh ?_;intro k n j;refine Hh ?_;refine(Qex [Qc5 b.born a.born,Qcp a.name b.name] _ _ _ (Qai (enc:=Qf7) X8 j) (by simp)).mono ?_;rintro _ _ ⟨rfl,rfl⟩;refine Hh ?_;exact⟨rfl,hx.trans (Qam j)⟩
theorem Q0x(l A c base w)(d:Own itC 7 152 base w A c l)(b:l.length<1000000) :
 Cal Tryz.prog 313 [.slice A l.length c,.func (.func 314) #[] #[]] w fun r w'=>r=.tuple #[]/\∃F,F.Perm l/\Srt (ltOf Q4o) F/\Sl itC 7 w' A F/\∀a,Ext a w->a.heap.size<=base->Ext a w':=
 Qgh Tryz.sortItem (by decide) Tryz.isAgg152 Tryz.sizeOf152 (fun _=>rfl) Qtj Q4o Q80 ⟨_,Tryz.func313,rfl,rfl⟩ (enters_of Tryz.func314 Kr rfl) l A c base w d b (fun x y w' _=>Q4p x y w') (cb:= #[])
theorem Xlm{z now q F}(c:F.Perm ((thC z now).filter q))(d:Srt (ltOf Q4o) F):F.map (fun x:It=>x.name)=(Q23 z now q).map (·.1):=by
 have h:F.map Xld=Q23 z now q:=Qut (c.map Xld) (by
  unfold Srt;rw[Z5];refine d.imp fun {a b} h=>?_
  rw[<- Qtt];exact h)
 rw[<- h,Zz];rfl
theorem Xkb(z now):(thC z now).length=(Qcy z now).length:=by unfold thC;rw[Zg]
theorem Xgn{z now q k}(h:k<(Qcy z now).length) :
 (((Qcy z now).take (k+1)).map fun n=>(Xz (Qm z) n now).1).filter q=(((Qcy z now).take k).map fun n=>(Xz (Qm z) n now).1).filter q++if q (Xz (Qm z) (Qcy z now)[k] now).1=true then [(Xz (Qm z) (Qcy z now)[k] now).1] else []:=by
 rw[Za h,Zp,Zq];congr 1;simp only[Zm,Zbk]
 by_cases a:q (Xz (Qm z) (Qcy z now)[k] now).1=true
 .rw[if_pos a,Zb4 a];rfl
 .rw[if_neg a,Zbr a];rfl
set_option maxHeartbeats 2000000 in
theorem Qpk{w T p c z v}(h:WQ w T p c z v)(b2:Qqm c z)(now ah af cr q)
 (b3:∀t∈thC z now,∀w',Ext w w'->Cal Tryz.prog ah (.agg (itC t).toArray::af::cr) w' fun r I=>r=.bool (q t)/\Ext w' I) :
 Cal Tryz.prog 237 [Pj p,Vj now,.func (.func ah) #[] (af::cr).toArray] w fun r w'=>∃A M,r=.slice A ((Q23 z now q).map (·.1)).length M/\Own Qac 1 9 w.heap.size w' A M ((Q23 z now q).map (·.1))/\Ext w w':=by
 have cp:=b2.len;have b1:=Qw6 z now;have bv:(Qm z).length<100000:=(by have:=Zc thB z;unfold Qm;omega);have bh:∀name,(Qy (Qm z) name).length<1000000000000:=fun name=>h.rows
 refine Fi Tryz.func237 rfl _ rfl rfl (Hh ?_);refine(Xo h).mono ?_;rintro _ cc ⟨pc,S,rfl,ay,b6⟩;refine Gg ?_;refine(Q5y cc S pc _ ay now bh bv).mono ?_;rintro _ I ⟨A,M,br,rfl,Y,a5,a3,b0,b7⟩;have av:=Xa1 a5 a3;rw[av]at Y⊢;clear a5 a3 av ay b0 br;have Z:=b6.trans b7;have ak:(((Qcy z now).map fun n=>(Xz (Qm z) n now).1).filter q)=(thC z now).filter q:=rfl;have an:=fun k (C:k<(Qcy z now).length)=>Xgn (q:=q) C
 have al:∀n∈Qcy z now,Qdw (Qm z) now n=true/\(Xz (Qm z) n now).1∈thC z now:=fun n a4=>⟨Qlv.1 a4,Zh.2 ⟨n,a4,rfl⟩⟩
 generalize Qcy z now=N at Y b1 ak an al⊢;refine Gg ?_
 refine Qh Qb (fun(x:Nat×Option Addr×Nat×List It) w'=>x.1<=N.length/\Ext I w'/\x.2.2.2=((N.take x.1).map fun n=>(Xz (Qm z) n now).1).filter q/\Own itC 7 152 I.heap.size w' x.2.1 x.2.2.1 x.2.2.2)
  (fun|(k,B,d,F)=>[(0,Pj p),(1,Vj now),(2,.func (.func ah) #[] (af::cr).toArray),(7,.slice B F.length d),(18,.slice A N.length M),(19,Vj N.length),(20,Vj (k:Nat))]) (fun x=>N.length-x.1) (0,none,0,[]) ⟨Zt _,Ext.refl _,rfl,Own.nil⟩ Rr ?_
 rintro ⟨k,B,d,F⟩ ac ⟨C,b,i,o⟩;simp only at C i o;have cj:F.length<=k:=(by rw[i];refine Zw (Zc _ _) ?_;rw[Zg,Zn];omega);refine Gg ?_;constructor
 .intro f;have f:k<N.length:=Su f;obtain⟨ax,ai,y⟩:=(Y.ext b).get f;have a:=an k f;rw[<- i]at a;obtain⟨P,ao⟩:=al N[k] (Zu f);generalize N[k]=name at y a P ao;have bz:(Xz (Qm z) name now).2=true:=(by unfold Qdw at P;rw[Zk]at P;exact P.1);refine Gg ?_;refine⟨ax,⟨ai,Om,Om⟩,Gg ?_⟩;refine⟨.string name,Qp y,Gg ?_⟩;refine(Xo (h.ext (Z.trans b))).mono ?_;rintro _ J ⟨cb,bt,rfl,az,H⟩;refine Gg ?_;have O:=Xa J bt cb _ az name now (bh name);rw[bz]at O;generalize (Xz (Qm z) name now).1=t at O a ao;refine O.mono ?_;rintro _ cu ⟨rfl,bk⟩;clear O az;refine Gg ?_;intro b5 w5 R;refine Gg ?_;refine Qc Qb (e:=ty152) rfl R.At rfl rfl rfl (Qtj t) fun L m a8=>?_
  have m:At L b5 152 (itC t):=m;have ar:Ext ac L:=(H.trans bk).trans (a8.ext R.ext (by rw[R.block];exact Zf _));clear a8 R H bk;refine Gg ?_;refine⟨itC t,fun _=>⟨rfl,m.all⟩,Gg ?_⟩;refine⟨Unit,fun _=>(.bool (q t)),fun _ w'=>Ext L w',(),fun cn=>((b3 t ao L ((Z.trans b).trans ar))).mono fun r w' h=>⟨(),h.1,h.2⟩,?_⟩;intro _ cd au
  have aq:Ext L cd:=by
   rcases au with⟨_,h⟩|⟨_,h⟩
   .exact h
   .rw[h];exact Ext.refl _
  clear au;refine Hh ?_;replace m:=m.ext aq;have s:=ar.trans aq;clear ar aq;generalize cq:q t=bl at a⊢;refine Gg ?_;constructor
  .intro j;have j:bl=true:=Su j;rw[if_pos j]at a;refine Gg ?_;refine⟨itC t,⟨rfl,m.all⟩,Gg ?_⟩;intro b8 cv D;refine Gg ?_;refine Qq Xl1 (l:=F) (news:= [t]) rfl ((o.ext s).ext D.ext) rfl (Xl1.new1 (x:=t) D) (by simp;omega) ((b.trans s).trans D.ext).size fun bo bu cw bd bw cg=>?_
   have b9:=Qu ((b.trans s).trans D.ext) bw (Xm ((o.ext s).ext D.ext));generalize F++[t]=bq at bd a⊢;refine Gg ?_;refine⟨_,wrap_succ Om,Gg ?_⟩;exact⟨(k+1,bo,bu,bq),Sj,⟨Sj,b9,a.symm,bd⟩,Rr⟩
  .intro j;have j:¬bl=true:=Su j;rw[if_neg j,Z4]at a;refine Gg ?_;refine⟨_,wrap_succ Om,Gg ?_⟩;exact⟨(k+1,B,d,F),Sj,⟨Sj,b.trans s,a.symm,o.ext s⟩,Rr⟩
 intro g;have g:N.length<=k:=Su g;rw[Zd g,ak]at i;clear an al ak Y;refine Gg ?_;refine(Q0x F B d I.heap.size ac o Om).mono ?_;rintro _ J ⟨rfl,Q,W,bi,b4,H⟩;rw[i]at W;have aw:Q.length=F.length:=by rw[i];exact W.length_eq
 have a7:=Xlm W bi;have cl:Q.length<1000000:=Om;have bj:Ext w J:=H w (Z.trans b) Z.size
 dsimp only
 rw[<- a7,<- aw];clear i o W bi a7 H b g aw;refine Gg ?_
 refine Qh Qb (fun(x:Nat×Option Addr×Nat×List Bj) w'=>x.1<=Q.length/\Ext J w'/\x.2.2.2=(Q.take x.1).map (fun x:It=>x.name)/\Own Qac 1 9 J.heap.size w' x.2.1 x.2.2.1 x.2.2.2)
  (fun|(k,ae,ag,K)=>[(12,.slice ae K.length ag),(45,.slice B Q.length d),(46,Vj Q.length),(47,Vj (k:Nat))]) (fun x=>Q.length-x.1) (0,none,0,[]) ⟨Zt _,Ext.refl _,rfl,Own.nil⟩ Rr ?_
 rintro ⟨k,ae,ag,K⟩ ac ⟨C,b,u,V⟩;simp only at C u V;have ck:K.length<=k:=by rw[u,Zg,Zn];omega
 refine Gg ?_;constructor
 .intro f;have f:k<Q.length:=Su f;obtain⟨ax,ai,y⟩:=(b4.ext b).get f;subst ai;have a:(Q.take (k+1)).map (fun x:It=>x.name)=K++[((fun x:It=>x.name)) Q[k]]:=by rw[Za f,Zp,u];rfl
  generalize Q[k]=x at y a;refine Gg ?_;refine⟨ax,Ix,Gg ?_⟩;refine⟨itC x,⟨rfl,y⟩,Gg ?_⟩;intro bb wb U;refine Gg ?_;refine Qc Qb (e:=ty152) rfl U.At rfl rfl rfl (Qtj x) fun bm aj a9=>?_
  have aj:At bm bb 152 (itC x):=aj;have aa:Ext ac bm:=a9.ext U.ext (by rw[U.block];exact Zf _);clear a9 U;have a0:nth (itC x) 0=some (.string (((fun x:It=>x.name)) x)):=rfl;generalize cm:((fun x:It=>x.name)) x=ab at a0 a;refine Gg ?_;refine⟨.string ab,aj.one a0,Gg ?_⟩;intro be cx E;refine Gg ?_;refine Qq Xp (l:=K) (news:= [ab]) rfl ((V.ext aa).ext E.ext) rfl (Xp.new1 (x:=ab) E) (by simp;omega) ((b.trans aa).trans E.ext).size fun bp cf wf bg bx ch=>?_
  have ca:=Qu ((b.trans aa).trans E.ext) bx (Xm ((V.ext aa).ext E.ext));generalize K++[ab]=bs at bg a⊢;refine Gg ?_;refine⟨_,wrap_succ Om,Gg ?_⟩;exact⟨(k+1,bp,cf,bs),Sj,⟨Sj,ca,a.symm,bg⟩,Rr⟩
 intro g;have g:Q.length<=k:=Su g;rw[Zd g]at u;rw[<- u];refine Gg ?_;exact⟨ae,ag,rfl,V.base bj.size,bj.trans b⟩
theorem Xh7:Tryz.prog.underlying 42=some (.slice 9):=by kernel_rfl
theorem Qoj(x A c w)(i:SlT w A x)(y:x.length<1000000) :
 Cal Tryz.prog 55 [.slice A x.length c] w fun r w'=>∃d f,r=.slice d x.length f/\Own Qac 1 9 w.heap.size w' d f x/\Ext w w':=by
 refine Fi Tryz.func55 rfl _ rfl rfl (Hh ?_);refine⟨_,X4 Xh7 A _ _ _ _,Hh ?_⟩;constructor
 .intro h;obtain rfl:A=none:=Su h
  have hx:x=[]:=by
   cases x with
   |nil=>rfl
   |cons e x=>obtain⟨a,n,_⟩:=i 0 e rfl;cases n
  subst hx;refine Hh ?_;exact⟨none,0,rfl,Own.nil,Ext.refl _⟩
 .intro h;refine Hh ?_;intro u z b;refine Hh ?_;have j:=Xp.made (base:=w.heap.size) b (Zf _);refine Qq Xp (l:= []) (news:=x) rfl j rfl (i.ext b.ext) (by simp;omega) b.ext.size fun k m B g o v=>?_
  have s:=Qu b.ext o (Xm j);rw[Zah]at g⊢;refine Hh ?_;exact⟨k,m,rfl,g,s⟩
theorem Qjo(l A c w)(k:SlT w A l)(s:l.length<=c)(u:l.length<1000000)(n)(v:0<=n/\n<=9223372036854775807) :
 Cal Tryz.prog 236 [.slice A l.length c,Vj n] w fun r w'=>∃d e,r=.slice d (l.take n.toNat).length e/\Own Qac 1 9 w.heap.size w' d e (l.take n.toNat)/\Ext w w':=by
 obtain⟨a,b⟩:∃a,a=l.take n.toNat:=⟨_,rfl⟩;have i:min n (l.length:Int)=(a.length:Int):=by rw[b,Zn];omega
 have o:a.length<=l.length:=by rw[b,Zn];omega
 have f:=Qdj (Qp1 k n.toNat) 0 c (by rw[<- b];omega);rw[List.drop_zero,<- b]at f;refine Fi Tryz.func236 rfl _ rfl rfl (Hh ?_);rw[i];refine⟨⟨Om,Om,Om,Om⟩,Hh ?_⟩;refine(Qoj a _ _ w f Om).mono ?_;rintro _ x ⟨g,h,rfl,j,m⟩;refine Hh ?_;rw[<- b];exact⟨g,h,rfl,j,m⟩
theorem Q9i(b M A c t w)(g:At w b 42 [.slice A M.length c])(i:SlT w A M)(h:M.length<1000000) :
 Cal Tryz.prog 238 [.agg (itC t).toArray,Pj b] w fun r w'=>r=.bool (decide (t.maker∈M))/\Ext w w':=by
 refine Fi Tryz.func238 rfl _ rfl rfl (Hh ?_);intro e d a;refine Hh ?_;have f:At d e 152 (itC t):=a.At;refine⟨_,(g.ext a.ext).one0,Hh ?_⟩;refine⟨.string t.maker,f.one rfl,Hh ?_⟩;refine(Qa3 M A c t.maker d (i.ext a.ext) h).mono ?_;rintro _ k ⟨rfl,j⟩;subst j;refine Hh ?_;exact⟨rfl,a.ext⟩
theorem Q9j(b b9 now span t w)(e:At w b 3 [Vj now])(f:At w b9 3 [Vj span])(i:0<=now/\now<=1099511627776)(h:0<=t.born/\t.born<=1099511627776) :
 Cal Tryz.prog 239 [.agg (itC t).toArray,Pj b,Pj b9] w fun r w'=>r=.bool (decide (now-t.born<=span))/\Ext w w':=by
 refine Fi Tryz.func239 rfl _ rfl rfl (Hh ?_);intro c g a;refine Hh ?_;have d:At g c 152 (itC t):=a.At;refine⟨_,(e.ext a.ext).one0,Hh ?_⟩;refine⟨Vj t.born,d.one rfl,Hh ?_⟩;refine⟨now-t.born,wrap_eq rfl ⟨Om,Om⟩,Hh ?_⟩;refine⟨_,(f.ext a.ext).one0,Hh ?_⟩;exact⟨rfl,a.ext⟩
theorem Xa6{z}(e:z.length<1000)(now q):((Q23 z now q).map (·.1)).length<1000:=by
 have a:=(Qt2 z now q).length_eq;have b:=Zc q (thC z now);have c:=Qw6 z now;have d:=Xkb z now;rw[Zg]at a⊢;rw[Zg]at a;omega
theorem Qtf{w T p c z v}(h:WQ w T p c z v)(o:Qqm c z)(person:Bj)(now a)(J:0<=a/\a<=9223372036854775807) :
 Cal Tryz.prog 178 [Pj p,.string person,Vj now,Vj a] w fun r w'=>Qn4 c z person now a 3 w r w':=by
 have K:=o.len;have R:=Qet c.width z h.rise h.may;have ae:=Qxm c.width z;refine Fi Tryz.func178 rfl _ rfl rfl (Hh ?_);refine(Qad h).mono ?_;rintro _ Y ⟨pw,S,rfl,I,U⟩;refine Hh ?_;refine(Qji Y S pw _ _ I (fun r P=>(R r P).1) Om person).mono ?_;rintro _ Z ⟨k,l,rfl,N,V⟩;have n:∀t:It,decide (t.maker∈Xh ((Qa0 (Xk (Qi c.width z).rs).follows person (hist (evs (Qi c.width z).rs) person)).map (·.1)))=Xku z person t:=fun t=>(by unfold Xku;rw[Zc7,decide_eq_true_iff,Qge,Q9h,(Qb7 c.width z).2,Qrp])
 have m:(Xh ((Qa0 (Xk (Qi c.width z).rs).follows person (hist (evs (Qi c.width z).rs) person)).map (·.1))).length<1000000:=by
  rw[Qcn,Zg]
  have F:∀(g:List (LK×Bool)) (d:List Ev),(Qa0 g person d).length<=d.length:=fun g=>by
   refine Qw (by simp[Qa0]) fun d e af=>?_
   rw[Qeu];split
   .have:=Qcb e.text true (Qa0 g person d);simp;omega
   .simp;omega
  have aa:=F (Xk (Qi c.width z).rs).follows (hist (evs (Qi c.width z).rs) person);have ab:(hist (evs (Qi c.width z).rs) person).length<=(evs (Qi c.width z).rs).length:=Zc _ _;have b:(evs (Qi c.width z).rs).length=(Qi c.width z).rs.length:=Zg _;omega
 have u:=N.sl Qv;generalize Xh ((Qa0 (Xk (Qi c.width z).rs).follows person (hist (evs (Qi c.width z).rs) person)).map (·.1))=M at u n m⊢;refine Hh ?_;intro f ag i;refine Hh ?_;refine Qc Qb (e:=ty42) rfl i.At rfl rfl rfl Oj fun A b L=>?_
 have b:At A f 42 [.slice k M.length l]:=b;have x:Ext Z A:=L.ext i.ext (by rw[i.block];exact Zf _);have j:=(U.trans V).trans x;refine Hh ?_;refine(Qpk (h.ext j) o now 238 (Pj f) [] (Xku z person) fun t _ w' hx=>?_).mono ?_
 .rw[<- n t];exact Q9i f M k l t w' (b.ext hx) ((u.ext x).ext hx) m
 rintro _ w5 ⟨B,D,rfl,s,y⟩;have ac:=Xa6 K now (Xku z person);refine Hh ?_;refine(Qjo _ B D w5 (s.sl Qv) s.le Om a J).mono ?_;rintro _ ah ⟨C,E,rfl,O,W⟩;refine Hh ?_;have H:(Qe4 c z person now 3).take a.toNat=((Q23 z now (Xku z person)).map (·.1)).take a.toNat:=rfl;rw[H];exact⟨C,E,rfl,O.base (j.trans y).size,(j.trans y).trans W⟩
theorem Qq1{w T p c z v}(h:WQ w T p c z v)(l:Qqm c z)(person:Bj)(now a)(H:0<=now/\now<=1099511627776)(E:0<=a/\a<=9223372036854775807) :
 Cal Tryz.prog 179 [Pj p,.string person,Vj now,Vj a] w fun r w'=>Qn4 c z person now a 4 w r w':=by
 have F:=l.len;refine Fi Tryz.func179 rfl _ rfl rfl (Hh ?_);intro d O i;refine Hh ?_;have b:At O d 3 [Vj now]:=i.At;refine(Qbi (h.ext i.ext)).mono ?_;rintro _ P ⟨rfl,L⟩;refine Hh ?_;intro f S j;refine Hh ?_;refine Qc Qb (e:=ty3) rfl j.At rfl rfl rfl Oj fun u g I=>?_
 have g:At u f 3 [Vj c.span]:=g;have M:Ext P u:=I.ext j.ext (by rw[j.block];exact Zf _);have o:=L.trans M;have k:=i.ext.trans o;replace b:=b.ext o;refine Hh ?_;refine⟨_,b.one0,Hh ?_⟩;refine(Qpk (h.ext k) l now 239 (Pj d) [Pj f] (Xml c now) fun t K w' hx=>?_).mono ?_
 .obtain⟨n,_,rfl⟩:=Zh.1 K;have D:=(Xin h.may n now).2.2.2.2;exact Q9j d f now c.span _ w' (b.ext hx) (g.ext hx) H D
 rintro _ w5 ⟨x,A,rfl,m,s⟩;have R:=Xa6 F now (Xml c now);refine Hh ?_;refine(Qjo _ x A w5 (m.sl Qv) m.le Om a E).mono ?_;rintro _ U ⟨y,B,rfl,J,N⟩;refine Hh ?_;have C:(Qe4 c z person now 4).take a.toNat=((Q23 z now (Xml c now)).map (·.1)).take a.toNat:=rfl;rw[C];exact⟨y,B,rfl,J.base (k.trans s).size,(k.trans s).trans N⟩
end Go.Proofs.YtnpacgccajekgaaGreatDoor
namespace Go.Proofs.YtnpacgccajekgaaGreatDoor
open Go.Se Go.RowKit Go.Sort Go.Shelf
def kpV(kp:Ct->Bool)(x:Bj×Value):Bool:=match x.2 with
 |.int _ n=>kp (x.1,n)
 |_=>false
theorem Q5j(kp)(L:List Ct):(Xj vi L).filter (kpV kp)=Xj vi (L.filter kp):=by
 unfold Xj;rw[List.filter_map];rfl
set_option maxHeartbeats 1000000 in
theorem Xay(w a)(L:List Ct)(v:MapAt w a Value.string (Xj vi L))(f d e)(kp:Ct->Bool)
 (H:∀x∈L,∀w',Mod (fun k=>k=a) w w'->Cal Tryz.prog f (.string x.1::Vj x.2::d::e) w' fun r C=>r=.bool (!kp x)/\Ext w' C) :
 Cal Tryz.prog 241 [.map (some a),.func (.func f) #[] (d::e).toArray] w fun r w'=>r=.tuple #[]/\MapAt w' a Value.string (Xj vi (L.filter kp))/\Mod (fun k=>k=a) w w':=by
 have P:=v.lt;have D:(Xj vi L).length=L.length:=by simp[Xj]
 refine Fi Tryz.func241 rfl _ rfl rfl (Hh ?_);refine map_range Qyg v fun V s O=>?_
 generalize U:w.heap.size=r at s⊢;refine Gg ?_
 refine Qh Qb (fun(vs:List (Bj×Value)) w'=>Mod (fun k=>k=a) w w'/\Qlc w' r a Value.string (kpV kp) (Xj vi L) vs)
  (fun _=>[(0,.map (some a)),(1,.func (.func f) #[] (d::e).toArray),(7,Pj r)]) (fun vs=>L.length-vs.length) [] ⟨Mod.of_ext O,s.del⟩ Rr ?_
 rintro vs C ⟨l,I⟩;refine Gg ?_;refine Xau I (fun z=>?_) (fun x j u K c M F=>?_)
 .refine Gg ?_;constructor
  .intro g;cases g
  intro _;refine Gg ?_;rw[Q5j]at z;exact⟨rfl,z,l⟩
 .have m:Mod (fun k=>k=a) w j:=Qn l (Qj M (.inr Om));obtain⟨y,i,rfl⟩:∃y∈L,x=(y.1,vi y.2):=(by unfold Xj at u;obtain⟨y,i,E⟩:=Zh.1 u;exact⟨y,i,E.symm⟩);have o:=H y i j m;have h:kpV kp (y.1,vi y.2)=kp y:=rfl;generalize R:kp y=B at o h;rw[D]at K;refine Gg ?_;constructor
  .intro _;refine Gg ?_;refine Qa1 (F j rfl rfl) ?_;refine Gg ?_;refine o.mono ?_;rintro _ W ⟨rfl,A⟩;replace c:=c.ext A;have n:=m.trans (Mod.of_ext (S:=fun k=>k=a) A);refine Gg ?_;constructor
   .intro b;have b:B=false:=Su b;refine Gg ?_;refine Qz8 Qyg (Qr Xd) c (h.trans b) fun w5 J N=>?_
    refine Gg ?_;exact⟨vs++[(y.1,vi y.2)],by simp;omega,⟨n.trans (Qj N rfl),J⟩,Rr⟩
   .intro b;have b:B=true:=Su b;refine Gg ?_;exact⟨vs++[(y.1,vi y.2)],by simp;omega,⟨n,c.kept (h.trans b)⟩,Rr⟩
  .intro g;cases g
theorem Qvh{w T p c z v}(h:WQ w T p c z v)(B C)(person item:Bj)(n)(b:At w B 38 [Pj p])(d:At w C 9 [.string person]) :
 Cal Tryz.prog 242 [.string item,Vj n,Pj B,Pj C] w fun r w'=>r=.bool (!keepR (Qi c.width z).rs person (item,n))/\Ext w w':=by
 have J:(!keepR (Qi c.width z).rs person (item,n))=(decide (n<=0)||(Qjd (Qi c.width z).rs person item||Q7w (Qi c.width z).rs person item)):=by unfold keepR;rw[Bool.not_not]
 rw[J];refine Fi Tryz.func242 rfl _ rfl rfl (Hh ?_);refine Dr .ext [0,1,2,3,5,6,4,7,8,9,10,12,13,11] [14,15,16] (Hh ?_);have j:Ext w w.drew:=(Ext.refl w).drew;replace h:=h.ext j;replace b:=b.ext j;replace d:=d.ext j;generalize w.drew=F at h b d j⊢;generalize decide (n<=0)=E;refine⟨_,fun _=>b.one0,Hh ?_⟩;refine⟨_,fun _=>d.one0,Hh ?_⟩;refine⟨Nat,fun pw=>Pj pw,fun pw w'=>(∃S,X7 w' S pw (Xf c.half) (Qi c.width z).rs)/\Ext F w',0,fun _=>(Qad h).mono fun r w' a=>?_,?_⟩
 .obtain⟨pw,S,m,o,s⟩:=a;exact⟨pw,m,⟨S,o⟩,s⟩
 intro pw k a
 have f:Ext F k:=by
  rcases a with⟨_,a⟩|⟨_,a⟩
  .exact a.2
  .rw[a];exact Ext.refl _
 have H:E=false->∃S,X7 k S pw (Xf c.half) (Qi c.width z).rs:=fun x=>by
  rcases a with⟨_,a⟩|⟨e,_⟩
  .exact a.1
  .exact(e ⟨x,trivial⟩).elim
 clear a;replace h:=h.ext f;replace b:=b.ext f;replace d:=d.ext f;refine⟨f,?_⟩;refine Hh ?_;refine⟨Unit,fun _=>.bool (Qjd (Qi c.width z).rs person item),fun _ w'=>Ext k w',(),fun e=>?_,?_⟩
 .obtain⟨S,u⟩:=H e;refine(Qwg k S pw _ _ u person item).mono ?_;rintro r w' ⟨y,hx⟩;exact⟨(),y,hx⟩
 rintro ⟨⟩ A a
 have g:Ext k A:=by
  rcases a with⟨_,a⟩|⟨_,a⟩
  .exact a
  .rw[a];exact Ext.refl _
 clear a;replace h:=h.ext g;replace b:=b.ext g;replace d:=d.ext g;refine⟨g,?_⟩;refine Hh ?_;generalize Qjd (Qi c.width z).rs person item=L;refine⟨_,fun _=>b.one0,Hh ?_⟩;refine⟨_,fun _=>d.one0,Hh ?_⟩;refine⟨Nat,fun pw=>Pj pw,fun pw w'=>(∃S,X7 w' S pw (Xf c.half) (Qi c.width z).rs)/\Ext A w',0,fun _=>(Qad h).mono fun r w' a=>?_,?_⟩
 .obtain⟨pw,S,m,o,s⟩:=a;exact⟨pw,m,⟨S,o⟩,s⟩
 intro D l a
 have i:Ext A l:=by
  rcases a with⟨_,a⟩|⟨_,a⟩
  .exact a.2
  .rw[a];exact Ext.refl _
 have I:(E||L)=false->∃S,X7 l S D (Xf c.half) (Qi c.width z).rs:=fun x=>by
  rcases a with⟨_,a⟩|⟨e,_⟩
  .exact a.1
  .exact(e ⟨x,trivial⟩).elim
 clear a;replace h:=h.ext i;replace b:=b.ext i;replace d:=d.ext i;refine⟨i,?_⟩;refine Hh ?_;refine⟨Unit,fun _=>.bool (Q7w (Qi c.width z).rs person item),fun _ w'=>Ext l w',(),fun e=>?_,?_⟩
 .obtain⟨S,u⟩:=I e;refine(Qo0 l S D _ _ u person item).mono ?_;rintro r w' ⟨y,hx⟩;exact⟨(),y,hx⟩
 rintro ⟨⟩ M a
 have K:Ext l M:=by
  rcases a with⟨_,a⟩|⟨_,a⟩
  .exact a
  .rw[a];exact Ext.refl _
 clear a;refine⟨?_,((j.trans f).trans (g.trans i)).trans K⟩;rw[Bool.or_assoc]
def Q8y(L:List Ct)(a b:Bj):Int:=orL [Qc5 ((Qe L b).getD 0) ((Qe L a).getD 0),Qcp a b]
theorem Qts(L a b):ltOf (Q8y L) a b=Qmm (a,(Qe L a).getD 0) (b,(Qe L b).getD 0):=by rw[<- Qlt];rfl
theorem Q8z(L):SWO (ltOf (Q8y L)) where
 irrefl x:=by rw[Qts];exact Qfd.irrefl _
 trans x y z h k:=by rw[Qts]at*;exact Qfd.trans _ _ _ h k
 ntrans x y z h k:=by rw[Qts]at*;exact Qfd.ntrans _ _ _ h k
theorem Q30(f d)(L:List Ct)(a b:Bj)(w)(g:At w f 359 [.map (some d)])(i:MapAt w d Value.string (Xj vi L)) :
 Cal Tryz.prog 244 [.string a,.string b,Pj f] w fun r w'=>r=Vj (Q8y L a b)/\Gr w w':=by
 have c:∀x:Bj,RdS Tryz.prog .same w (Instr.lookup 359 (.map (some d)) (.string x) false) (Vj ((Qe L x).getD 0)):=fun x=>(by have c:=X5 Qyg (Qr Xd) (e:=ty2) ty2_ok (cl:= .same) Qs i x;rw[show ty2.zero=vi 0 from rfl,Xt]at c;exact c)
 refine Fi Tryz.func244 rfl _ rfl rfl (Hh ?_);refine⟨_,g.one0,Hh ?_⟩;refine⟨_,c b,Hh ?_⟩;refine⟨_,g.one0,Hh ?_⟩;refine⟨_,c a,Hh ?_⟩;refine(Qfy _ _ _).mono ?_;rintro _ o ⟨rfl,k⟩;subst k;refine Hh ?_;refine(Qaj _ _ _).mono ?_;rintro _ s ⟨rfl,l⟩;subst l;refine Hh ?_;intro m u h;refine Hh ?_;refine(Qex [Qc5 ((Qe L b).getD 0) ((Qe L a).getD 0),Qcp a b] _ _ _ (Qai (enc:=Qf7) X8 h) (by simp)).mono ?_;rintro _ n ⟨rfl,j⟩;subst j;refine Hh ?_;exact⟨rfl,Qam h⟩
theorem Xmr{L}(e:L.Pairwise fun x y=>x.1≠y.1){F}(f:F.Perm (L.map (·.1)))(g:Srt (ltOf (Q8y L)) F):F=(Qgy L).map (·.1):=by
 have h:F.map (fun k=>((k,(Qe L k).getD 0):Ct))=Qgy L:=Qut (by
  have c:=f.map (fun k=>((k,(Qe L k).getD 0):Ct));rw[Zz]at c;refine c.trans ?_
  have:L.map ((fun k=>((k,(Qe L k).getD 0):Ct))∘fun x=>x.1)=L:=by
   conv=>rhs;rw[<- List.map_id L]
   refine Zbq fun x hx=>?_
   have:=Qcl e (k:=x.1) (v:=x.2) hx;simp only[Function.comp,this,Zas,id]
  rw[this]) (by
  unfold Srt;rw[Z5];refine g.imp fun {a b} h=>?_
  rw[<- Qts];exact h)
 have d:=congrArg (List.map (·.1)) h;rw[Zz]at d;rw[<- d]
 conv=>lhs;rw[<- List.map_id F]
 rfl
theorem Qzz(a w):Cal Tryz.prog 243 [.map a] w fun r w'=>r=.func (.func 315) #[] #[Pj w.heap.size]/\w'.cell? ⟨w.heap.size,0,none⟩=some (.map a)/\Ext w w':=
 Qf8 Tryz.keys243 ⟨_,Tryz.func243,rfl,rfl⟩ a w
theorem Qqv{w a b}{L:List (Bj×Value)}(g:w.cell? ⟨a,0,none⟩=some (.map (some b)))(j:MapAt w b Value.string L)(h:∀x∈L,x.1.size<=1000000)(i:L.length<=1000000000) :
 Cal Tryz.prog 181 [.func (.func 315) #[] #[Pj a]] w fun r w'=>∃A c K,r=.slice A K.length c/\K.Perm (L.map (·.1))/\Own Qac 1 9 w.heap.size w' A c K/\Ext w w':=by
 obtain⟨N,Q,d,e,f⟩:=Qhr { Tryz.keys243 with } g j h i;exact Qs3 { Tryz.sorted114 with } (enters_of Tryz.func315 Kr rfl) ⟨_,Tryz.func181,rfl,rfl⟩ e d f
theorem Q5o(half now)(l:List Ev)(k)(h:k<l.length):Qft half now (l.take (k+1))=Qmk half now (Qft half now (l.take k)) l[k]:=by
 rw[Za h,Qik]
theorem Xak(half now):∀l:List Ev,(Qft half now l).length<=l.length:=by
 refine Qw (by simp[Qft]) fun l e a=>?_
 rw[Qik,Zo,Zx,Zae];unfold Qmk;have:=Qcb e.item ((Qe (Qft half now l) e.item).getD 0+Qq6 half now e) (Qft half now l);omega
theorem Q88{z}(c:∀e∈z,Xy e=true)(person):∀e∈Qmf z person,Xy e=true:=fun e b=>by
 have a:=(Ze.1 b).1;unfold Qfs hist Qak at a;exact c e (Ze.1 (Ze.1 a).1).1
theorem Xeu{z}(d:∀e∈z,Xy e=true){person e}(a:e∈Qmf z person):e.item.size<=1000000:=by
 have b:=(Ze.1 a);have c:=Qe0 (Q88 d person e a) (Su b.2);have:=Qcg c.2;omega
set_option maxHeartbeats 4000000 in
theorem Q31{w T p c z v}(h:WQ w T p c z v)(dd:Qqm c z)(person:Bj)(now C)(d7:0<=now/\now<=1099511627776)(au:0<=C/\C<=9223372036854775807) :
 Cal Tryz.prog 180 [Pj p,.string person,Vj now,Vj C] w fun r w'=>Qn4 c z person now C 5 w r w':=by
 have d5:=dd.len;have b1:=h.may;have bq:=h.lt;have c5:(Qmf z person).length<1000:=(by have d:(Qmf z person).length<=(Qfs z person).length:=Zc _ _;have j:(Qfs z person).length<=z.length:=Qtg z person;omega);have an:=Q88 b1 person;have bt:=fun e (R:e∈Qmf z person)=>Xeu b1 R
 have bl:(Qe4 c z person now 5).take C.toNat=((Qgy ((Qft c.half now (Qmf z person)).filter (keepR (Qi c.width z).rs person))).map (·.1)).take C.toNat:=rfl;unfold Qn4;rw[bl];clear bl;refine Fi Tryz.func180 rfl _ rfl rfl (Hh ?_);intro g dq E;have d:At dq g 38 [Pj p]:=E.At;have dw:=E.block;refine Hh ?_;intro o dt H;have j:At dt o 9 [.string person]:=H.At;have dx:=H.block;replace d:=d.ext H.ext;refine Hh ?_;intro b cn B;have I:MapAt cn b Value.string (Xj vi ([]:List Ct)):=MapAt.new B;have dy:=B.block;replace d:=d.ext B.ext;replace j:=j.ext B.ext;refine Hh ?_;intro f el M;have dz:=M.block;refine Hh ?_;refine Qc Qb (e:=ty359) rfl M.At rfl rfl rfl Oj fun w5 l b5=>?_
 have l:At w5 f 359 [.map (some b)]:=l;have V:Ext cn w5:=b5.ext M.ext (by rw[M.block];exact Zf _);have cc:Ext w w5:=((E.ext.trans H.ext).trans B.ext).trans V;have eb:=E.size;have ec:=H.size;have ed:=B.size;have ee:=M.size;have ea:=E.ext.size;have ef:=V.size;have en:=E.ext.size;have eo:=H.ext.size;have ep:=B.ext.size;replace d:=d.ext V;replace j:=j.ext V;replace I:=I.ext V;clear E H B M b5;have ag:f≠b:=Om;have af:g≠b:=Om;have bh:o≠b:=Om;have d9:=l.lt;refine Hh ?_;refine⟨_,d.one0,Hh ?_⟩;refine⟨_,j.one0,Hh ?_⟩;refine(Qrk (h.ext cc) person).mono ?_;rintro _ O ⟨be,c6,rfl,b8,N⟩;have b9:=b8.sl Qau;have cv:∀a,be=some a->a.block≠b:=fun a n=>by have:=(b8.block n).1;omega
 replace d:=d.ext N;replace j:=j.ext N;replace l:=l.ext N;replace I:=I.ext N;have cd:=cc.trans N;have a4:=fun k A=>Q5o c.half now (Qmf z person) k A
 have c3:=fun cj (au:∀e∈cj,Xy e=true) x=>Qpc c.half now x cj au
 have b0:=Xak c.half now (Qmf z person);have ar:=Qlr c.half now (Qmf z person);have aq:∀x∈Qft c.half now (Qmf z person),x.1.size<=1000000:=fun x hx=>(by obtain⟨e,R,ao⟩:=Zh.1 (Qwz hx).1;rw[<- ao];exact bt e R)
 have a0:∀k,∀x,(Qe (Qft c.half now ((Qmf z person).take k)) x).getD 0<=1000*5242880/\0<=(Qe (Qft c.half now ((Qmf z person).take k)) x).getD 0:=fun k x=>by
  rw[Qrx];have d3:=Qpc c.half now x ((Qmf z person).take k) fun e R=>an e (Zay R)
  have d4:((Qmf z person).take k).length<=1000:=by rw[Zn];omega
  split
  .simp only[Zas];omega
  .simp
 have b2:Qft c.half now ((Qmf z person).take 0)=[]:=rfl;clear bt c3;generalize d1:Qmf z person=Q at b9 c5 an a4 b0 ar aq a0 b2⊢;refine Hh ?_
 refine Qh Qb (fun(q:Nat×List Ct) w'=>q.1<=Q.length/\Mod (fun k=>k=b) O w'/\q.2=Qft c.half now (Q.take q.1)/\MapAt w' b Value.string (Xj vi q.2))
  (fun|(k,_)=>[(2,Vj now),(3,Vj C),(4,Pj g),(5,Pj o),(9,Pj f),(16,.slice be Q.length c6),(17,Vj Q.length),(18,Vj (k:Nat))]) (fun q=>Q.length-q.1) (0,[]) ⟨Zt _,Mod.refl _ _,b2.symm,I⟩ Rr ?_
 clear I;have eg:=N.size;have d6:∀{w':World},Mod (fun k=>k=b) O w'->∀i,i<O.heap.size->i≠b->w'.heap[i]?=O.heap[i]? := fun D i ao db=>D.block i ao db
 have br:∀{w':World},Mod (fun k=>k=b) O w'->WQ w' T p c z v:=fun D=>h.keep fun k A=>(by have:=bq k A;exact(D.block k Om Om).trans (cd.block k this))
 rintro ⟨k,m⟩ Y ⟨A,u,J,aw⟩;simp only at A J aw;refine Hh ?_;constructor
 .intro U;have U:k<Q.length:=Su U;obtain⟨ax,cw,bs⟩:=(Qq2.stay b9 fun a n da=>u.block _ da (cv a n)).get U;have a5:=a4 k U;rw[<- J]at a5;have az:=an Q[k] (Zu U);have b4:=a0 k Q[k].item;rw[<- J]at b4;generalize Q[k]=e at bs a5 az b4;have d2:=Qw3 az;have df:=Qis (half:=c.half) (now:=now) az;refine Gg ?_;refine⟨ax,⟨cw,Om,Om⟩,Gg ?_⟩;refine⟨evC e,⟨rfl,bs⟩,Gg ?_⟩;intro b7 em ab;refine Gg ?_;refine Qc Qb (e:=ty69) rfl ab.At rfl rfl rfl (Qbn e) fun P s b6=>?_
  have s:At P b7 69 (evC e):=s;have cg:Ext Y P:=b6.ext ab.ext (by rw[ab.block];exact Zf _);clear b6 ab;refine Gg ?_;refine Dr .ext [0,1,2,3,4,6,7,8,9,10,5,11,12,13,14,15] [16] (Hh ?_);have W:Ext P P.drew:=(Ext.refl P).drew;replace s:=s.ext W;have a9:=cg.trans W;generalize P.drew=bd at s a9⊢;clear W cg;have ak:=u.trans (Mod.of_ext (S:=fun k=>k=b) a9);have cr:At bd g 38 [Pj p]:=(ak.block g d.lt af).trans d;have cu:At bd f 359 [.map (some b)]:=(ak.block f l.lt ag).trans l;have ay:=aw.ext a9;refine⟨_,cu.one0,Gg ?_⟩;refine⟨.string e.item,s.one rfl,Gg ?_⟩;have bz:=X5 Qyg (Qr Xd) (e:=ty2) ty2_ok (cl:= .ext) (Qii ay.lt) ay e.item;rw[show ty2.zero=vi 0 from rfl,Xt]at bz;refine⟨_,bz,Gg ?_⟩;refine⟨evC e,⟨rfl,s.all⟩,Gg ?_⟩;refine⟨Vj e.at_,s.one rfl,Gg ?_⟩;refine⟨now-e.at_,wrap_eq rfl ⟨Om,Om⟩,Gg ?_⟩;refine⟨_,cr.one0,Gg ?_⟩;refine(Qc2 e bd).mono ?_;rintro _ ej ⟨rfl,a7⟩;refine⟨a7,Gg ?_⟩;have bp:=ak.trans (Mod.of_ext (S:=fun k=>k=b) a7);refine(Qbi (br bp)).mono ?_;rintro _ dr ⟨rfl,a8⟩;refine⟨a8,Gg ?_⟩;refine(Qg1 (now-e.at_) c.half ⟨Om,Om⟩ dr).mono ?_;rintro _ ek ⟨rfl,di⟩;subst di;refine⟨Ext.refl _,Gg ?_⟩;have ca:Qq6 c.half now e=Qz e*Qaw (now-e.at_) c.half:=rfl;rw[ca]at df;refine⟨_,wrap_eq rfl ⟨Om,Om⟩,Gg ?_⟩;refine⟨_,wrap_eq rfl ⟨Om,Om⟩,Gg ?_⟩;have dk:=a7.trans a8;refine Qx Qyg (Qr Xd) (ay.ext dk) e.item _ fun cm av dc=>?_
  have av:MapAt cm b Value.string (Xj vi (Qmk c.half now m e)):=(by have:=av;unfold Qmk;rw[ca,<- Xc];exact this);have c0:Mod (fun k=>k=b) O cm:=(bp.trans (Mod.of_ext (S:=fun k=>k=b) a8)).trans (Qj dc rfl);refine Gg ?_;refine⟨_,wrap_succ Om,Gg ?_⟩;exact⟨(k+1,Qmk c.half now m e),Sj,⟨Sj,c0,a5.symm,av⟩,Rr⟩
 intro Z;have Z:Q.length<=k:=Su Z;rw[Zd Z]at J;rw[<- J]at b0 ar aq⊢;clear a4 a0 J Z;have bg:At Y g 38 [Pj p]:=(u.block g d.lt af).trans d;have bi:At Y o 9 [.string person]:=(u.block o j.lt bh).trans j;have ah:At Y f 359 [.map (some b)]:=(u.block f l.lt ag).trans l;have c2:=br u;have eh:=u.size;refine Hh ?_;refine⟨_,ah.one0,Hh ?_⟩;refine(Xay Y b m aw 242 (Pj g) [Pj o] (keepR (Qi c.width z).rs person) fun x _ w' D=>?_).mono ?_
 .exact Qvh (c2.keep fun k A=>by have:=bq k A;exact D.block k Om Om) g o person x.1 x.2 ((D.block g bg.lt af).trans bg) ((D.block o bi.lt bh).trans bi)
 rintro _ wb ⟨rfl,aa,al⟩;have ai:At wb f 359 [.map (some b)]:=(al.block f ah.lt ag).trans ah;have c1:=u.trans al;have bw:=ar.sublist (Zax (p:=keepR (Qi c.width z).rs person));have bu:∀x∈Xj vi (m.filter (keepR (Qi c.width z).rs person)),x.1.size<=1000000:=fun x hx=>(by unfold Xj at hx;obtain⟨y,dp,rfl⟩:=Zh.1 hx;exact aq y (Ze.1 dp).1)
 have c9:=Zc (keepR (Qi c.width z).rs person) m;generalize m.filter (keepR (Qi c.width z).rs person)=L at aa bw bu c9⊢;have d8:(Xj vi L).length=L.length:=by simp[Xj]
 have dh:(Xj vi L).map (·.1)=L.map (·.1):=by unfold Xj;rw[Zz];rfl
 refine Hh ?_;refine⟨_,ai.one0,Hh ?_⟩;refine(Qzz (some b) wb).mono ?_;rintro _ cp ⟨rfl,c4,bb⟩;refine Hh ?_;refine(Qqv c4 (aa.ext bb) bu Om).mono ?_;rintro _ du ⟨ae,c7,K,rfl,aj,a3,W⟩;rw[dh]at aj;have d0:K.length<1000:=by have:=aj.length_eq;rw[Zg]at this;omega
 have ac:=bb.trans W;have bj:=ai.ext ac;have b3:=aa.ext ac;have ei:=al.size;have ck:=bb.size;have bk:∀a,ae=some a->cp.heap.size<=a.block:=fun a n=>(a3.block n).1
 refine Hh ?_;refine(Xcx Tryz.sortTxt { Tryz.sortTxt with } (Q8y L) (Q8z L) ⟨_,Tryz.func135,rfl,rfl⟩ (enters_of Tryz.func244 Kr rfl) K ae c7 cp.heap.size du a3 Om (cb:= #[Pj f]) fun x y w' bv=>?_).mono ?_
 .exact Q30 f b L x y w' ((bv f (fun a n e=>by have:=bk a n;have:=ai.lt;omega) bj.lt).trans bj) (b3.keep (bv b (fun a n e=>by have:=bk a n;have:=aa.lt;omega) b3.lt))
 rintro _ dv ⟨rfl,F,bo,cy,cz,ch⟩;have cx:=Xmr bw (bo.trans aj) cy;have bm:F.length=K.length:=bo.length_eq;have bx:=a3.le;rw[<- bm]at bx;refine Hh ?_;rw[<- bm,<- cx];refine(Qjo F ae c7 dv cz bx Om C au).mono ?_;rintro _ wf ⟨cq,c8,rfl,de,dm⟩;refine Hh ?_;have cf:Ext w wb:=Qcu cd (fun k A=>Om) c1;have dj:Ext w wf:=cf.trans ((ch wb ac ck).trans dm);exact⟨cq,c8,rfl,de.base (cf.trans (ch wb ac ck)).size,dj⟩
