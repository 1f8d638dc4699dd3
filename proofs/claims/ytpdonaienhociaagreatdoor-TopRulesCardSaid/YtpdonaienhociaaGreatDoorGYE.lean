import Derived.Test.YtpdonaienhociaaGreatDoorGYC
set_option linter.all false
namespace Go.Proofs.YtpdonaienhociaaGreatDoor
open Go.Se Go.RowKit Go.Sort Go.Shelf
theorem Xgm:OneCell Value.string:=fun _=>rfl
theorem Q7n {w:World} {g:Nat} {cur:Array Value} {e:TypeId} {l:List Bj} (hb:w.heap[g]? = some (.cells cur e (0,0))) (ht:cur.toList.take l.length=l.map Value.string):Holds Value.string w g 0 l.toArray:=by
 intro j hj;have hj':j<l.length:=Su hj;refine⟨?_,by simp[World.frozen?,hb]⟩;have h1:(cur.toList.take l.length)[j]? = (l.map Value.string)[j]? := by rw[ht]
 rw[Zby,if_pos hj',Zaq,Zd hj'] at h1;rw[getElem!_pos l.toArray j hj];simp only[World.cell?,hb,Zbg,List.getElem_toArray];simpa using h1
theorem Qlu (enc:Bj->Value) (w:World) (blk off:Nat) (d:Array Bj) (k:Nat) (h:k≠blk):(putRow enc w blk off d).heap[k]? = w.heap[k]? := by
 unfold putRow mapBlock;simp only[Zb7,if_neg (Ne.symm h)]
theorem Qiu (enc:Bj->Value) (w:World) (blk off:Nat) (d:Array Bj):(putRow enc w blk off d).heap.size=w.heap.size:=by
 unfold putRow mapBlock;simp only[Zcf]
section
variable {P:Program} {ρ:Ren}
theorem Xad (S:SlLaysF.n6 P ρ) (S0:SlLaysF0.n6 P ρ) (cmp:Bj->Bj->Int) (hswo:Go.Sort.SWO (ltOf cmp)) (hok:Qtv P (ρ.f 6)) {f:Nat} {cb:Array Value} (eg:∀ args w,(callFunc f args).run P w = .ok (.enter f args) w)
 (l:List Bj) (A:Option Addr) (c base:Nat) (w:World) (hown:Own Qab 1 (ρ.t 24) base w A c l) (hl:l.length<1000000)
 (hcl:∀ x y w',(∀ k,(∀ a,A=some a->k≠a.block)->k<w.heap.size->w'.heap[k]? = w.heap[k]?)->Cal P f ([.string x,.string y]++cb.toList) w' fun r w''=>r = Vj (cmp x y)/\Gr w' w'') :
 Cal P (ρ.f 6) [.slice A l.length c,.func (.func f) #[] cb] w fun r w'=>r = .tuple #[]/\∃ F,F.Perm l/\Srt (ltOf cmp) F/\SlT w' A F/\∀ w0,Ext w0 w->w0.heap.size<=base->Ext w0 w':=by
 by_cases h0:l = []
 . subst h0;refine Qa9 hok (AnyF.slices_SortFunc_none S0 A c _ w) ?_;rintro w' rfl;exact⟨rfl,[],Za1 _,Srt.nil,Sl.nil,fun w0 h _=>h⟩
 . have hsl:=hown.sl Qw;have hpos:0<l.length:=Zac.2 h0;rcases hown.2 with⟨_,h1⟩ | ⟨g,cap,cur,hv,hb,hg,hc1,hc2,hc3,hc4⟩
   . omega
   injection hv with hA _ hcc;subst hA;subst hcc;have hH:Holds Value.string w g 0 l.toArray:=Q7n hg (by rw[Zbh] at hc4;rw[hc4,show Qab=fun x => [Value.string x] from rfl,Qe8]);have hbl:g<w.heap.size:=lt_of_block hg
   have hcmp:CmpLays1 P f cb Value.string cmp g 0 l.toArray.size w:=by
    intro m os dk _ x y
    have hkeep:∀ k,(∀ a,some (⟨g,0,none⟩:Addr)=some a->k≠a.block)->k<w.heap.size->(sortWorld Value.string w g 0 m dk os).heap[k]? = w.heap[k]? := by
     intro k hk hk2;have hkg:k≠g:=hk ⟨g,0,none⟩ rfl;have h1:(putRow Value.string (Go.Sort.ahead w m) g 0 dk).heap[k]? = (Go.Sort.ahead w m).heap[k]? := Qlu _ _ _ _ _ _ hkg;have hsz1:w.heap.size=(putRow Value.string (Go.Sort.ahead w m) g 0 dk).heap.size:=by rw[Qiu];rfl
     have h2:=(Qdz (putRow Value.string (Go.Sort.ahead w m) g 0 dk) os).block k Om;unfold sortWorld;rw[h2,h1];rfl
    have:=(hcl x y (sortWorld Value.string w g 0 m dk os) hkeep).2;have e1:([Value.string x,Value.string y]++cb.toList).toArray = #[Value.string x,Value.string y]++cb:=by simp
    rw[e1] at this;refine this.mono ?_;rintro e w' ⟨v,he,hv,q,os',hw⟩;exact⟨by rw[he,hv],q,os',hw⟩
   have hcall:=Any.slices_SortFunc S Value.string Xgm cmp hswo f cb g 0 c l.toArray w eg hcmp hH hbl (by simp;omega);rw[Zbf] at hcall;refine Qa9 hok hcall ?_;rintro w' ⟨d',n,os,hp,hs,rfl⟩;have hsz:d'.size=l.length:=Su hp.1
   have hperm:d'.toList.Perm l:=by
    have:=hp.2.2;have e1:d'.extract 0 l.length=d':=by rw[<- hsz];exact Array.extract_size
    have e2:l.toArray.extract 0 l.length=l.toArray:=by simp
    rw[e1,e2] at this;simpa using this
   have hH2:Holds Value.string (sortWorld Value.string w g 0 n d' os) g 0 d':=(by unfold sortWorld;refine holds_grow _ _ _ _ _ _ ?_ (holds_putRow _ _ _ _ l.toArray d' (holds_ahead _ _ _ _ _ _ hH) (Su hsz));rw[Qiu];exact hbl);refine⟨rfl,d'.toList,hperm,?_,?_,?_⟩
   . unfold Srt;rw[Zau];intro i j hi hj hij;have hi':i<d'.size:=Su hi;have hj':j<d'.size:=Su hj;have:=hs i j (Zu _) hij Om;rw[getElem!_pos d' i hi',getElem!_pos d' j hj'] at this;simpa using this
   . intro i x hi;have hlt:i<d'.size:=by have:=(Zi.1 hi).1;simpa using this
     refine⟨_,rfl,fun j v hj => ?_⟩;have hj0:j=0:=(by have:=(Zi.1 hj).1;have e:(Qab x).length=1:=Qw x;omega);subst hj0;have:=(hH2 i hlt).1;have hx:d'[i]! = x:=by rw[getElem!_pos d' i hlt];have:=Zi.1 hi;simpa using this.2
     rw[hx,Zbg] at this;rw[Xf,Qey,Zbh,Zc2,this];simpa [Qab] using hj
   . intro w0 h0 hb0
     have hx1:Ext w0 (putRow Value.string (Go.Sort.ahead w n) g 0 d'):=by
      refine⟨h0.os,h0.tape,h0.output,?_,fun k hk => ?_⟩
      . rw[Qiu];exact h0.size
      . rw[Qlu _ _ _ _ _ _ Om];exact h0.block k hk
     exact hx1.trans (Qdz _ os)
theorem Qrv {ρ6:Ren} (S:SlLaysZ.n8 P ρ6) {g:Nat} {lb:Array Value} (eg:∀ args w,(callFunc g args).run P w = .ok (.enter g args) w)
 (hok:Qtv P (ρ6.f 8)) {w:World} {l:List Bj} {N:Nat} {Q:List (List UInt8)->Prop} (hQ:∀ ss,Q ss->ss.Perm (l.map fun x=>x.data.toList)) (hN:N<=1000000000) (hseq:SeqGives Fence.wide 2 P g lb encStr Q N w) :
 Cal P (ρ6.f 8) [.func (.func g) #[] lb] w fun r w'=>∃ A c K,r = .slice A K.length c/\K.Perm l/\Own Qab 1 (ρ6.t 26) w.heap.size w' A c K/\Ext w w':=by
 have hS:=AnyZ.collect_in S Fence.wide 4 trivial trivial rfl Om g lb trivial eg _ N (by unfold maxLen;omega) Om w hseq;refine⟨hok,(callsIn_wide.1 hS).mono ?_⟩;rintro e w' ⟨v,ss,rfl,hp,hrow,_,hb⟩;have hkeys:=hQ ss hp;obtain⟨K,hK⟩:∃ K:List Bj,K=ss.map (fun x=>(⟨x.toArray⟩:Bj)):=⟨_,rfl⟩;have hKl:K.Perm l:=(by have h2:=hkeys.map (fun x=>(⟨x.toArray⟩:Bj));rw[hK];simpa [Zy,Function.comp_def] using h2)
 obtain⟨A,c,hv,ho⟩:=Qcq (enc:=Qab) (l:=K) hrow (by rw[hK];simp) (by
  rw[hK,show Qab=fun x => [Value.string x] from rfl,Qe8,Zy];rfl)
 exact⟨v,rfl,A,c,K,hv,hKl,ho,hb⟩
end
end Go.Proofs.YtpdonaienhociaaGreatDoor
namespace Go.Proofs.YtpdonaienhociaaGreatDoor
open Go.Se Go.RowKit
open Go.ChangeMaps (setBlock)
section
variable {κ:Type} {enc:κ->Value} {P:Program} {w w':World} {r b:Nat}
theorem Qli {α:Type} {p:α->Bool}:∀ {E:List α} {j:Nat} {y:α},E[j]? = some y->p y=true->E.Pairwise (fun a b=>p a=true->p b=false)->E.eraseIdx j=E.filter (fun a => !p a)
 | [],j,y,h,_,_=>by simp at h
 | a :: E,0,y,h,hy,hp=>by
   obtain rfl:a=y:=Su h;rw[Z9] at hp;rw[List.eraseIdx_zero,List.tail_cons,Zbl (by simp[hy]),eq_comm,Zcj];intro x hx;rw[hp.1 x hx hy];rfl
 | a :: E,j+1,y,h,hy,hp=>by
   have h:E[j]? = some y:=Su h;rw[Z9] at hp
   have ha:p a=false:=by
    cases hq:p a with
    | false=>rfl
    | true=>rw[hp.1 y (Zax h) hq] at hy;cases hy
   rw[List.eraseIdx_cons_succ,Zbk (by simp[ha]),Qli h hy hp.2]
theorem Qj8 {E:List (Ent κ)} (h:E.Pairwise (fun x y=>x.2.2<y.2.2)):∀ x∈E,∀ y∈E,x.2.2=y.2.2->x=y:=by
 induction E with
 | nil=>intro x hx;simp at hx
 | cons z E ih =>
   intro x hx y hy he;rw[Z9] at h;rcases Zr.1 hx with h1 | h1 <;> rcases Zr.1 hy with h2 | h2
   . rw[h1,h2]
   . subst h1;have:=h.1 _ h2;omega
   . subst h2;have:=h.1 _ h1;omega
   . exact ih h.2 x h1 y h2 he
def leftB (kp:κ×Value->Bool) (V:List (Ent κ)) (x:Ent κ):Bool := !decide (x.2.2∈V.map (·.2.2))||kp (x.1,x.2.1)
theorem Qqo {kp:κ×Value->Bool} {V:List (Ent κ)} {z y:Ent κ} (e:¬ z.2.2=y.2.2):leftB kp (V ++ [y]) z=leftB kp V z:=by
 unfold leftB;have hiff:z.2.2∈(V ++ [y]).map (·.2.2)↔z.2.2∈V.map (·.2.2):=(by rw[Zp,Zj];exact⟨fun h=>h.elim id fun h=>absurd (Su h) e,.inl⟩);rw[decide_eq_decide.2 hiff]
structure Qxb (w:World) (r b:Nat) (enc:κ->Value) (kp:κ×Value->Bool) (E0 V Vi:List (Ent κ)):Prop where
 at_:∃ clock since c0,Xbn w b enc (E0.filter (leftB kp V)) clock/\w.heap[r]? = some (.mapIter (some b) since (Vi.map fun x:Ent κ=>x.2.2).toArray c0)/\(∀ x∈E0,x.2.2<since)/\since<=c0/\since<=clock
 rising:E0.Pairwise (fun x y=>x.2.2<y.2.2)
 keys:E0.Pairwise (fun x y=>x.1≠y.1)
 nodup:Vi.Nodup
 sub:∀ x∈Vi,x∈E0
def Qxa (w:World) (r b:Nat) (enc:κ->Value) (kp:κ×Value->Bool) (L vs:List (κ×Value)):Prop:=∃ E0 V,strip E0=L/\strip V=vs/\Qxb w r b enc kp E0 V V
def Ql8 (w:World) (r b:Nat) (enc:κ->Value) (kp:κ×Value->Bool) (L vs:List (κ×Value)) (x:κ×Value):Prop:=∃ E0 V y,strip E0=L/\strip V=vs/\(y.1,y.2.1)=x/\y∈E0/\y∉V/\Qxb w r b enc kp E0 V (V ++ [y])
variable {kp:κ×Value->Bool} {L vs:List (κ×Value)} {x:κ×Value}
theorem Qxb.keep {E0 V Vi:List (Ent κ)} (h:Qxb w r b enc kp E0 V Vi) (h1:w'.heap[b]? = w.heap[b]?) (h2:w'.heap[r]? = w.heap[r]?):Qxb w' r b enc kp E0 V Vi:=by
 obtain⟨clock,since,c0,hE,hr,q1,q2,q3⟩:=h.at_;exact⟨⟨clock,since,c0,⟨h1.trans hE.block,hE.rising,hE.below,hE.keys⟩,h2.trans hr,q1,q2,q3⟩,h.rising,h.keys,h.nodup,h.sub⟩
theorem Qxb.lt {E0 V Vi:List (Ent κ)} (h:Qxb w r b enc kp E0 V Vi):r<w.heap.size/\b<w.heap.size/\r≠b:=by
 obtain⟨clock,since,c0,hE,hr,_⟩:=h.at_;refine⟨lt_of_block hr,lt_of_block hE.block,?_⟩;rintro rfl;rw[hE.block] at hr;simp at hr
theorem Ql8.keep (h:Ql8 w r b enc kp L vs x) (h1:w'.heap[b]? = w.heap[b]?) (h2:w'.heap[r]? = w.heap[r]?):Ql8 w' r b enc kp L vs x:=by
 obtain⟨E0,V,y,e1,e2,e3,e4,e5,h⟩:=h;exact⟨E0,V,y,e1,e2,e3,e4,e5,h.keep h1 h2⟩
theorem Qxa.lt (h:Qxa w r b enc kp L vs):r<w.heap.size/\b<w.heap.size/\r≠b:=by
 obtain⟨E0,V,e1,e2,h⟩:=h;exact h.lt
theorem Ql8.lt (h:Ql8 w r b enc kp L vs x):r<w.heap.size/\b<w.heap.size/\r≠b:=by
 obtain⟨E0,V,y,e1,e2,e3,e4,e5,h⟩:=h;exact h.lt
theorem Ql8.ext (h:Ql8 w r b enc kp L vs x) (hx:Ext w w'):Ql8 w' r b enc kp L vs x:=h.keep (hx.block _ h.lt.2.1) (hx.block _ h.lt.1)
theorem Iter.del (h:Iter w r b enc L []):Qxa w r b enc kp L []:=by
 obtain⟨E,c,V,si,c0,hE,rfl,hr,hold,hsc,hsk,hv,hnd,hsub⟩:=h
 obtain rfl:V = []:=by
  cases V with
  | nil=>rfl
  | cons y V=>simp[strip] at hv
 have hf:E.filter (leftB kp [])=E:=(by rw[Zcj];intro x _;simp[leftB]);exact⟨E,[],rfl,rfl,⟨c,si,c0,by rw[hf];exact hE,hr,hold,hsc,hsk⟩,hE.rising,hE.keys,hnd,hsub⟩
theorem Ql8.kept (h:Ql8 w r b enc kp L vs x) (hk:kp x=true):Qxa w r b enc kp L (vs ++ [x]):=by
 obtain⟨E0,V,y,e1,e2,rfl,e4,e5,h⟩:=h;refine⟨E0,V ++ [y],e1,by rw[<- e2];simp[strip],?_⟩;obtain⟨clock,since,c0,hE,hr,q1,q2,q3⟩:=h.at_
 have hf:E0.filter (leftB kp (V ++ [y]))=E0.filter (leftB kp V):=by
  refine List.filter_congr fun z hz => ?_
  by_cases e:z.2.2=y.2.2
  . obtain rfl:=Qj8 h.rising z hz y e4 e;unfold leftB;rw[hk];simp
  . exact Qqo e
 exact⟨⟨clock,since,c0,by rw[hf];exact hE,hr,q1,q2,q3⟩,h.rising,h.keys,h.nodup,h.sub⟩
theorem Q21 [DecidableEq κ] {E:List (Ent κ)} {clock:Nat} {mt kt et ty:TypeId} (ht:P.underlying mt=some (.map kt et)) (K:Qtw P kt enc) (hE:Xbn w b enc E clock) {y:Ent κ} (hy:y∈E) :
 ∃ j,E[j]? = some y/\(Builtin.delete_ #[mt,kt] ty #[.map (some b),enc y.1]).run P w = .ok (.tuple #[]) (setBlock w b (.map ((E.eraseIdx j).map (mkE enc)).toArray clock)):=by
 have hf:=K.find w y.1 E
 cases hfe:Qfh E y.1 0 with
 | none=>exact absurd rfl ((Qhs hfe).1 y hy)
 | some p =>
   obtain⟨j,v0⟩:=p;obtain⟨n,s,hj,hn,_⟩:=Qht hfe;obtain rfl:j=n:=Om;have hyy:(y.1,v0,s)=y:=Qie hE.keys (Zax hn) hy rfl;refine⟨j,by rw[hn,hyy],?_⟩;have he:((E.map (mkE enc)).toArray.eraseIdxIfInBounds j)=((E.eraseIdx j).map (mkE enc)).toArray:=(by unfold Array.eraseIdxIfInBounds;have hlt:j<(E.map (mkE enc)).toArray.size:=(by have:=(Zi.1 hn).1;simpa using this);rw[dif_pos hlt];apply Zco;simp[Go.ChangeMaps.map_eraseIdx]);rw[hfe] at hf;have h1:=Qdd (P:=P) hE.block;have h2:=Qgj (P:=P) (.map ((E.eraseIdx j).map (mkE enc)).toArray clock) hE.block;have h3:=K.check w y.1 (E.map (mkE enc)).toArray.isEmpty;simp[Builtin.delete_,run_underlying ht,h1,K.check,hf,setBlock];rw[<- Go.ChangeMaps.map_eraseIdx,h2];rfl
theorem Qyl [DecidableEq κ] {mt kt et ty:TypeId} (ht:P.underlying mt=some (.map kt et)) (K:Qtw P kt enc) (h:Ql8 w r b enc kp L vs x) (hk:kp x=false) {R:Value->World->Prop}
 (hR:∀ w',Qxa w' r b enc kp L (vs ++ [x])->Only w w' b->R (.tuple #[]) w'):Qkj P (Builtin.delete_ #[mt,kt] ty #[.map (some b),enc x.1]) w R:=by
 obtain⟨hr1,hb1,hrb⟩:=h.lt;obtain⟨E0,V,y,e1,e2,rfl,e4,e5,h⟩:=h;obtain⟨clock,since,c0,hE,hr,q1,q2,q3⟩:=h.at_;have hyV:¬ y.2.2∈V.map (·.2.2):=fun hm=>(by obtain⟨z,hz,he⟩:=Zh.1 hm;have hz0:=h.sub z (by simp[hz]);have:=Qj8 h.rising z hz0 y e4 he;exact e5 (this ▸ hz))
 have hyE:y∈E0.filter (leftB kp V):=Ze.2 ⟨e4,by unfold leftB;simp only[hyV,decide_false,Zc3,Bool.true_or]⟩;obtain⟨j,hj,hrun⟩:=Q21 (ty:=ty) ht K hE hyE;have hon:=Qah w b (.map (((E0.filter (leftB kp V)).eraseIdx j).map (mkE enc)).toArray clock);refine⟨_,_,hrun,hR _ ⟨E0,V ++ [y],e1,by rw[<- e2];simp[strip],⟨⟨clock,since,c0,?_,(hon.block r hrb).trans hr,q1,q2,q3⟩,h.rising,h.keys,h.nodup,h.sub⟩⟩ hon⟩
 have hf:(E0.filter (leftB kp V)).eraseIdx j=E0.filter (leftB kp (V ++ [y])):=by
  rw[Qli (p:=fun z:Ent κ=>decide (z.2.2=y.2.2)) hj (by simp) (hE.rising.imp fun {a c} hlt h1=>by
   simp only[decide_eq_true_eq] at h1;simp only[decide_eq_false_iff_not];omega),List.filter_filter]
  refine List.filter_congr fun z hz => ?_
  by_cases e:z.2.2=y.2.2
  . obtain rfl:=Qj8 h.rising z hz y e4 e;unfold leftB;rw[hk];simp
  . rw[Qqo e];simp[e]
 rw[hf];have hsub:(E0.filter (leftB kp (V ++ [y]))).Sublist (E0.filter (leftB kp V)):=by rw[<- hf];exact List.eraseIdx_sublist _ _
 exact⟨Qaa hE.block,hE.rising.sublist hsub,fun z hz=>hE.below z (hsub.subset hz),hE.keys.sublist hsub⟩
theorem Q8f {ty:TypeId} (hi:Qxa w r b enc kp L vs) {R:Value->World->Prop}
 (hdone:MapAt w b enc (L.filter kp)->R (.tuple #[.bool false]) w)
 (hstep:∀ x w',x∈L->vs.length<L.length->Ql8 w' r b enc kp L vs x->Only w w' r->(∀ w2,w2.heap[r]? = w'.heap[r]? -> w2.heap[b]? = w'.heap[b]? -> (Instr.entry (Pj r)).run P w2 = .ok (.tuple #[enc x.1,x.2]) w2)->R (.tuple #[.bool true,enc x.1,x.2]) w') :
 Qkj P (Instr.next (Pj r) false ty) w R:=by
 obtain⟨_,_,hrb⟩:=hi.lt;obtain⟨E0,V,rfl,rfl,h⟩:=hi;obtain⟨c,si,c0,hE,hr,hold,hsc,hsk⟩:=h.at_;have hst:=Qj8 h.rising;have hold':∀ x∈((E0.filter (leftB kp V)).map (mkE enc)).toArray.toList,x.born<si:=(by intro x hx;simp only[Zh] at hx;obtain⟨y,hy,rfl⟩:=hx;exact hold y (Ze.1 hy).1);rcases run_next_at (P:=P) w ty r b si c0 _ _ c hr hE.block hold' hsc with⟨h0,hrun⟩ | ⟨e,he,w1,hw1,hrun⟩
 . refine⟨_,_,hrun,hdone ?_⟩
   have hall:∀ x∈E0,x.2.2∈V.map (·.2.2):=by
    intro x hx;refine Classical.byContradiction fun hn => ?_
    have hxE:x∈E0.filter (leftB kp V):=Ze.2 ⟨hx,by unfold leftB;simp only[hn,decide_false,Zc3,Bool.true_or]⟩;have hl:leftOf ((E0.filter (leftB kp V)).map (mkE enc)).toArray (V.map fun x:Ent κ=>x.2.2).toArray = #[]:=Array.eq_empty_of_size_eq_zero h0;unfold leftOf at hl;rw[Array.filter_eq_empty_iff] at hl;have:=hl (mkE enc x) (by rw[List.mem_toArray];exact Zh.2 ⟨x,hxE,rfl⟩);simp[mkE] at this;obtain⟨a,a',hv⟩:=this;exact hn (Zh.2 ⟨_,hv,rfl⟩)
   have hf:E0.filter (leftB kp V)=E0.filter fun x=>kp (x.1,x.2.1):=by
    refine List.filter_congr fun z hz => ?_
    unfold leftB;simp only[hall z hz,decide_true,Zcs,Bool.false_or]
   rw[hf] at hE;refine⟨_,c,hE,?_⟩;unfold strip;rw[List.filter_map];rfl
 . unfold leftOf at he;simp only[Array.mem_toList_iff,Array.mem_filter,List.mem_toArray,Zh] at he;obtain⟨⟨x,hx,rfl⟩,hns⟩:=he;have hx0:=(Ze.1 hx).1;have hxV:x∉V:=(by intro hv;simp[mkE] at hns;exact hns x.1 x.2.1 hv);have hr1:w1.heap=w.heap:=by rcases hw1 with rfl | rfl <;> rfl
   have hon:Only w (setBlock w1 r (.mapIter (some b) si ((V.map fun x:Ent κ=>x.2.2).toArray.push (mkE enc x).born) c)) r:=by
    rcases hw1 with rfl | rfl
    . exact Qah _ _ _
    . have h2:=Qah w.drew r (.mapIter (some b) si ((V.map fun x:Ent κ=>x.2.2).toArray.push (mkE enc x).born) c);exact⟨h2.os,h2.tape,h2.output,h2.size,h2.block⟩
   refine⟨_,_,hrun,hstep (x.1,x.2.1) _ (Zh.2 ⟨x,hx0,rfl⟩) ?_ ⟨E0,V,x,rfl,rfl,rfl,hx0,hxV,⟨⟨c,si,c,⟨(hon.block b (Ne.symm hrb)).trans hE.block,hE.rising,hE.below,hE.keys⟩,?_,hold,hsk,hsk⟩,h.rising,h.keys,?_,?_⟩⟩ hon ?_⟩
   . have:(x :: V).length<=E0.length:=Qd3 (Zbc.2 ⟨hxV,h.nodup⟩) (fun y hy=>by
      rcases Zr.1 hy with rfl | hy
      . exact hx0
      . exact h.sub y hy)
     simp[strip] at this ⊢;omega
   . rw[Qaa (o := .mapIter (some b) si (V.map fun x:Ent κ=>x.2.2).toArray c0) (by rw[hr1];exact hr)];simp[mkE]
   . rw[Zcy];exact⟨h.nodup,by simp,fun a ha y hy=>by simp at hy;subst hy;rintro rfl;exact hxV ha⟩
   . intro y hy;rcases Zj.1 hy with hy | hy
     . exact h.sub y hy
     . simp at hy;subst hy;exact hx0
   . intro w2 h1 h2;have hrr:w2.heap[r]? = some (.mapIter (some b) si ((V.map fun x:Ent κ=>x.2.2).toArray.push (mkE enc x).born) c):=(by rw[h1,Qaa (o := .mapIter (some b) si (V.map fun x:Ent κ=>x.2.2).toArray c0) (by rw[hr1];exact hr)]);have hbb:w2.heap[b]? = some (.map ((E0.filter (leftB kp V)).map (mkE enc)).toArray c):=by rw[h2,(hon.block b (Ne.symm hrb))];exact hE.block
     refine run_entry_at w2 r b si _ _ c (mkE enc x) hrr hbb (by rw[List.toList_toArray];exact Zh.2 ⟨x,hx,rfl⟩) ?_;simp only[Zy];rw[Zae,Z7];exact hE.rising.imp (fun h e=>by simp[mkE] at e;omega)
end
end Go.Proofs.YtpdonaienhociaaGreatDoor
namespace Go.Proofs.YtpdonaienhociaaGreatDoor
open Go.Se Go.RowKit Go.Sort
theorem Xif:Ql9 Tryz.prog 344 59 itC 7 80:=⟨by kernel_rfl,⟨_,ty59_ok,rfl,rfl⟩,by59,by decide,by decide,fun _=>rfl,Qsc⟩
instance:Inhabited It:=⟨Qbt⟩
def Q2t (a b:It):Int:=orL [Qcy b.born a.born,Qch a.name b.name]
theorem Qsk (a b:It):ltOf Q2t a b=Qlm (Xhu a) (Xhu b):=by rw[<- Qkv];rfl
theorem Q6y:SWO (ltOf Q2t) where
 irrefl x:=by rw[Qsk];exact Qe6.irrefl _
 trans x y z h k:=by rw[Qsk] at *;exact Qe6.trans _ _ _ h k
 ntrans x y z h k:=by rw[Qsk] at *;exact Qe6.ntrans _ _ _ h k
theorem Q2u (a b:It) (w:World):Cal Tryz.prog 229 [.agg (itC a).toArray,.agg (itC b).toArray] w fun r w'=>r = Vj (Q2t a b)/\Gr w w':=by
 refine Fi Tryz.func229 rfl _ rfl rfl (Hh ?_);intro b1 w1 hn1;refine Hh ?_;intro b2 w2 hn2;have h1:At w2 b1 _ (itC a):=hn1.At.ext hn2.ext;have h2:At w2 b2 _ (itC b):=hn2.At;have hx:=(Qae hn1).trans ((Qae hn2).trans (Gr.drew w2));refine Hh ?_;refine Dr .ext [0,1,2,3,5,6,7,8,4] [9,10,11,12] (Hh ?_);replace h1:At w2.drew b1 _ _:=h1;replace h2:At w2.drew b2 _ _:=h2;generalize w2.drew=w3 at h1 h2 hx ⊢;refine⟨_,h2.one rfl,Hh ?_⟩;refine⟨_,h1.one rfl,Hh ?_⟩;refine⟨_,h1.one rfl,Hh ?_⟩;refine⟨_,h2.one rfl,Hh ?_⟩;refine(Qih _ _ _).mono ?_;rintro _ _ ⟨rfl,rfl⟩;refine⟨Ext.refl _,Hh ?_⟩;refine(Qac _ _ _).mono ?_;rintro _ _ ⟨rfl,rfl⟩;refine Hh ?_;intro b6 w6 hn6;refine Hh ?_;refine(Qen [Qcy b.born a.born,Qch a.name b.name] _ _ _ (Qak (enc:=Qfu) X4 hn6) (by simp)).mono ?_;rintro _ _ ⟨rfl,rfl⟩;refine Hh ?_;exact⟨rfl,hx.trans (Qae hn6)⟩
theorem Qy9 (l:List It) (A:Option Addr) (c base:Nat) (w:World) (hown:Own itC 7 59 base w A c l) (hl:l.length<1000000) :
 Cal Tryz.prog 228 [.slice A l.length c,.func (.func 229) #[] #[]] w fun r w'=>r = .tuple #[]/\∃ F,F.Perm l/\Srt (ltOf Q2t) F/\Sl itC 7 w' A F/\∀ w0,Ext w0 w->w0.heap.size<=base->Ext w0 w' :=
 Qf7 Tryz.sortItem (by decide) Tryz.isAgg59 Tryz.sizeOf59 (fun _=>rfl) Qsc Q2t Q6y ⟨_,Tryz.func228,rfl,rfl⟩ (enters_of Tryz.func229 Kr rfl) l A c base w hown hl (fun x y w' _=>Q2u x y w') (cb := #[])
theorem Xh4 {z:List Ev} {now:Int} {q:It->Bool} {F:List It} (hp:F.Perm ((thC z now).filter q)) (hs:Srt (ltOf Q2t) F):F.map (fun x:It=>x.name)=(Q1a z now q).map (·.1):=by
 have h:F.map Xhu=Q1a z now q:=Qth (hp.map Xhu) (by
  unfold Srt;rw[Z7];refine hs.imp fun {a b} h => ?_
  rw[<- Qsk];exact h)
 rw[<- h,Zy];rfl
theorem Xgp (z:List Ev) (now:Int):(thC z now).length=(Qcp z now).length:=by unfold thC;rw[Zf]
theorem Xdn {z:List Ev} {now:Int} {q:It->Bool} {k:Nat} (h:k<(Qcp z now).length) :
 (((Qcp z now).take (k+1)).map fun n=>(Xw (Ql z) n now).1).filter q=(((Qcp z now).take k).map fun n=>(Xw (Ql z) n now).1).filter q++if q (Xw (Ql z) (Qcp z now)[k] now).1=true then [(Xw (Ql z) (Qcp z now)[k] now).1] else []:=by
 rw[Za h,Zp,Zq];congr 1;simp only[Zm,Zb8]
 by_cases hq:q (Xw (Ql z) (Qcp z now)[k] now).1=true
 . rw[if_pos hq,Zbk hq];rfl
 . rw[if_neg hq,Zbl hq];rfl
set_option maxHeartbeats 2000000 in
theorem Qoj {w:World} {T:Nat->Prop} {p:Nat} {c:Cfg} {z:List Ev} {v:Value} (h:WQ w T p c z v) (hok:Qm7 c z) (now:Int) (fv:FuncId) (c0:Value) (cr:List Value) (q:It->Bool)
 (hq:∀ t∈thC z now,∀ w',Ext w w'->Cal Tryz.prog fv (.agg (itC t).toArray :: c0 :: cr) w' fun r w2=>r = .bool (q t)/\Ext w' w2) :
 Cal Tryz.prog 157 [Pj p,Vj now,.func (.func fv) #[] (c0 :: cr).toArray] w fun r w'=>∃ A cp,r = .slice A ((Q1a z now q).map (·.1)).length cp/\Own Qab 1 9 w.heap.size w' A cp ((Q1a z now q).map (·.1))/\Ext w w':=by
 have hlen:=hok.len;have hnl:=Qvq z now;have hcl:(Ql z).length<100000:=(by have:=Zc thB z;unfold Ql;omega);have hrows:∀ name,(Qz (Ql z) name).length<1000000000000:=fun name=>h.rows
 refine Fi Tryz.func157 rfl _ rfl rfl (Hh ?_);refine(Xh h).mono ?_;rintro _ w1 ⟨pc,S,rfl,hcat,hx1⟩;refine Gg ?_;refine(Q32 w1 S pc _ hcat now hrows hcl).mono ?_;rintro _ w2 ⟨A,cp,K0,rfl,hs,hn0,hm0,hl0,hx2⟩;have hK0:=Q8n hn0 hm0;rw[hK0] at hs ⊢;clear hn0 hm0 hK0 hcat hl0 K0;have hx02:=hx1.trans hx2;have hend:(((Qcp z now).map fun n=>(Xw (Ql z) n now).1).filter q)=(thC z now).filter q:=rfl;have hst:=fun k (hk:k<(Qcp z now).length)=>Xdn (q:=q) hk
 have hlist:∀ n∈Qcp z now,Qdj (Ql z) now n=true/\(Xw (Ql z) n now).1∈thC z now:=fun n hn=>⟨Qky.1 hn,Zh.2 ⟨n,hn,rfl⟩⟩
 generalize Qcp z now=N at hs hnl hend hst hlist ⊢;refine Gg ?_
 refine Qh Qb (fun(x:Nat×Option Addr×Nat×List It) w'=>x.1<=N.length/\Ext w2 w'/\x.2.2.2=((N.take x.1).map fun n=>(Xw (Ql z) n now).1).filter q/\Own itC 7 59 w2.heap.size w' x.2.1 x.2.2.1 x.2.2.2)
  (fun | (k,B,d,F) => [(0,Pj p),(1,Vj now),(2,.func (.func fv) #[] (c0 :: cr).toArray),(7,.slice B F.length d),(18,.slice A N.length cp),(19,Vj N.length),(20,Vj (k:Nat))]) (fun x=>N.length-x.1) (0,none,0,[]) ⟨Zu _,Ext.refl _,rfl,Own.nil⟩ Rr ?_
 rintro ⟨k,B,d,F⟩ wa ⟨hk,hxa,hF,hown⟩;simp only at hk hF hown;have hFl:F.length<=k:=(by rw[hF];refine Zv (Zc _ _) ?_;rw[Zf,Zn];omega);refine Gg ?_;constructor
 . intro hlt;have hlt:k<N.length:=Su hlt;obtain⟨ax,hAx,hcx⟩:=(hs.ext hxa).get hlt;have htk:=hst k hlt;rw[<- hF] at htk;obtain⟨hli,hth⟩:=hlist N[k] (Zx hlt);generalize N[k]=name at hcx htk hli hth;have hi2:(Xw (Ql z) name now).2=true:=(by unfold Qdj at hli;rw[Zl] at hli;exact hli.1);refine Gg ?_;refine⟨ax,⟨hAx,Om,Om⟩,Gg ?_⟩;refine⟨.string name,Qs hcx,Gg ?_⟩;refine(Xh (h.ext (hx02.trans hxa))).mono ?_;rintro _ w3 ⟨pc3,S3,rfl,hcat3,hx3⟩;refine Gg ?_;have hat:=Q7 w3 S3 pc3 _ hcat3 name now (hrows name);rw[hi2] at hat;generalize (Xw (Ql z) name now).1=t at hat htk hth;refine hat.mono ?_;rintro _ w4 ⟨rfl,hx4⟩;clear hat hcat3;refine Gg ?_;intro b5 w5 hn5;refine Gg ?_;refine Qc Qb (e:=ty59) rfl hn5.At rfl rfl rfl (Qsc t) fun w6 h6 ho6 => ?_
   have h6:At w6 b5 59 (itC t):=h6;have hxa6:Ext wa w6:=(hx3.trans hx4).trans (ho6.ext hn5.ext (by rw[hn5.block];exact Zg _));clear ho6 hn5 hx3 hx4;refine Gg ?_;refine⟨itC t,fun _=>⟨rfl,h6.all⟩,Gg ?_⟩;refine⟨Unit,fun _=>(.bool (q t)),fun _ w'=>Ext w6 w',(),fun hg=>((hq t hth w6 ((hx02.trans hxa).trans hxa6))).mono fun r w' h=>⟨(),h.1,h.2⟩,?_⟩;intro _ w7 h2
   have hx7:Ext w6 w7:=by
    rcases h2 with⟨_,h⟩ | ⟨_,h⟩
    . exact h
    . rw[h];exact Ext.refl _
   clear h2;refine Hh ?_;replace h6:=h6.ext hx7;have hxa7:=hxa6.trans hx7;clear hxa6 hx7;generalize hqt:q t=qt at htk ⊢;refine Gg ?_;constructor
   . intro hq1;have hq1:qt=true:=Su hq1;rw[if_pos hq1] at htk;refine Gg ?_;refine⟨itC t,⟨rfl,h6.all⟩,Gg ?_⟩;intro b8 w8 hn8;refine Gg ?_;refine Qq Xif (l:=F) (news := [t]) rfl ((hown.ext hxa7).ext hn8.ext) rfl (Xif.new1 (x:=t) hn8) (by simp;omega) ((hxa.trans hxa7).trans hn8.ext).size fun A9 c9 w9 hown9 hg9 hA9 => ?_
     have hx9:=Qu ((hxa.trans hxa7).trans hn8.ext) hg9 (Xq ((hown.ext hxa7).ext hn8.ext));generalize F ++ [t]=F2 at hown9 htk ⊢;refine Gg ?_;refine⟨_,wrap_succ Om,Gg ?_⟩;exact⟨(k+1,A9,c9,F2),Sj,⟨Sj,hx9,htk.symm,hown9⟩,Rr⟩
   . intro hq1;have hq1:¬ qt=true:=Su hq1;rw[if_neg hq1,Zw] at htk;refine Gg ?_;refine⟨_,wrap_succ Om,Gg ?_⟩;exact⟨(k+1,B,d,F),Sj,⟨Sj,hxa.trans hxa7,htk.symm,hown.ext hxa7⟩,Rr⟩
 intro hge;have hge:N.length<=k:=Su hge;rw[Zb hge,hend] at hF;clear hst hlist hend hs;refine Gg ?_;refine(Qy9 F B d w2.heap.size wa hown Om).mono ?_;rintro _ w3 ⟨rfl,Q,hp,hsrt,hsQ,hx3⟩;rw[hF] at hp;have hQF:Q.length=F.length:=by rw[hF];exact hp.length_eq
 have hnew:=Xh4 hp hsrt;have hQl:Q.length<1000000:=Om;have hx03:Ext w w3:=hx3 w (hx02.trans hxa) hx02.size
 dsimp only
 rw[<- hnew,<- hQF];clear hF hown hp hsrt hnew hx3 hxa hge hQF;refine Gg ?_
 refine Qh Qb (fun(x:Nat×Option Addr×Nat×List Bj) w'=>x.1<=Q.length/\Ext w3 w'/\x.2.2.2=(Q.take x.1).map (fun x:It=>x.name)/\Own Qab 1 9 w3.heap.size w' x.2.1 x.2.2.1 x.2.2.2)
  (fun | (k,B3,d3,K) => [(12,.slice B3 K.length d3),(45,.slice B Q.length d),(46,Vj Q.length),(47,Vj (k:Nat))]) (fun x=>Q.length-x.1) (0,none,0,[]) ⟨Zu _,Ext.refl _,rfl,Own.nil⟩ Rr ?_
 rintro ⟨k,B3,d3,K⟩ wa ⟨hk,hxa,hK,hownK⟩;simp only at hk hK hownK;have hKl:K.length<=k:=by rw[hK,Zf,Zn];omega
 refine Gg ?_;constructor
 . intro hlt;have hlt:k<Q.length:=Su hlt;obtain⟨ax,hAx,hcx⟩:=(hsQ.ext hxa).get hlt;subst hAx;have htk:(Q.take (k+1)).map (fun x:It=>x.name)=K ++ [((fun x:It=>x.name)) Q[k]]:=by rw[Za hlt,Zp,hK];rfl
   generalize Q[k]=x at hcx htk;refine Gg ?_;refine⟨ax,Ix,Gg ?_⟩;refine⟨itC x,⟨rfl,hcx⟩,Gg ?_⟩;intro bb wb hnb;refine Gg ?_;refine Qc Qb (e:=ty59) rfl hnb.At rfl rfl rfl (Qsc x) fun wc hbc hoc => ?_
   have hbc:At wc bb 59 (itC x):=hbc;have hxc:Ext wa wc:=hoc.ext hnb.ext (by rw[hnb.block];exact Zg _);clear hoc hnb;have hfx:nth (itC x) 0=some (.string (((fun x:It=>x.name)) x)):=rfl;generalize hfn:((fun x:It=>x.name)) x=tx at hfx htk;refine Gg ?_;refine⟨.string tx,hbc.one hfx,Gg ?_⟩;intro be we hne;refine Gg ?_;refine Qq X7 (l:=K) (news := [tx]) rfl ((hownK.ext hxc).ext hne.ext) rfl (X7.new1 (x:=tx) hne) (by simp;omega) ((hxa.trans hxc).trans hne.ext).size fun Af cf wf hownf hgf hAf => ?_
   have hxf:=Qu ((hxa.trans hxc).trans hne.ext) hgf (Xq ((hownK.ext hxc).ext hne.ext));generalize K ++ [tx]=K2 at hownf htk ⊢;refine Gg ?_;refine⟨_,wrap_succ Om,Gg ?_⟩;exact⟨(k+1,Af,cf,K2),Sj,⟨Sj,hxf,htk.symm,hownf⟩,Rr⟩
 intro hge;have hge:Q.length<=k:=Su hge;rw[Zb hge] at hK;rw[<- hK];refine Gg ?_;exact⟨B3,d3,rfl,hownK.base hx03.size,hx03.trans hxa⟩
theorem Xez:Tryz.prog.underlying 36=some (.slice 9):=by kernel_rfl
theorem Qnk (x:List Bj) (A:Option Addr) (c:Nat) (w:World) (hs:SlT w A x) (hl:x.length<1000000) :
 Cal Tryz.prog 139 [.slice A x.length c] w fun r w'=>∃ A' c',r = .slice A' x.length c'/\Own Qab 1 9 w.heap.size w' A' c' x/\Ext w w':=by
 refine Fi Tryz.func139 rfl _ rfl rfl (Hh ?_);refine⟨_,X9 Xez A _ _ _ _,Hh ?_⟩;constructor
 . intro h;obtain rfl:A=none:=Su h
   have hx:x = []:=by
    cases x with
    | nil=>rfl
    | cons e x=>obtain⟨a,ha,_⟩:=hs 0 e rfl;cases ha
   subst hx;refine Hh ?_;exact⟨none,0,rfl,Own.nil,Ext.refl _⟩
 . intro h;refine Hh ?_;intro b1 w1 hn1;refine Hh ?_;have o1:=X7.made (base:=w.heap.size) hn1 (Zg _);refine Qq X7 (l := []) (news:=x) rfl o1 rfl (hs.ext hn1.ext) (by simp;omega) hn1.ext.size fun A2 c2 w2 hown2 hg2 hA2 => ?_
   have hx2:=Qu hn1.ext hg2 (Xq o1);rw[Zan] at hown2 ⊢;refine Hh ?_;exact⟨A2,c2,rfl,hown2,hx2⟩
theorem Qiv (l:List Bj) (A:Option Addr) (c:Nat) (w:World) (hs:SlT w A l) (hc:l.length<=c) (hl:l.length<1000000) (n:Int) (hn:0<=n/\n<=9223372036854775807) :
 Cal Tryz.prog 156 [.slice A l.length c,Vj n] w fun r w'=>∃ A' c',r = .slice A' (l.take n.toNat).length c'/\Own Qab 1 9 w.heap.size w' A' c' (l.take n.toNat)/\Ext w w':=by
 obtain⟨T,hT⟩:∃ T,T=l.take n.toNat:=⟨_,rfl⟩;have hTl:min n (l.length:Int)=(T.length:Int):=by rw[hT,Zn];omega
 have hTl2:T.length<=l.length:=by rw[hT,Zn];omega
 have hsk:=Qf0 (Qy6 hs n.toNat) 0 c (by rw[<- hT];omega);rw[List.drop_zero,<- hT] at hsk;refine Fi Tryz.func156 rfl _ rfl rfl (Hh ?_);rw[hTl];refine⟨⟨Om,Om,Om,Om⟩,Hh ?_⟩;refine(Qnk T _ _ w hsk Om).mono ?_;rintro _ w2 ⟨A2,c2,rfl,hown2,hx2⟩;refine Hh ?_;rw[<- hT];exact⟨A2,c2,rfl,hown2,hx2⟩
theorem Q69 (b:Nat) (M:List Bj) (A:Option Addr) (c:Nat) (t:It) (w:World) (hb:At w b 36 [.slice A M.length c]) (hs:SlT w A M) (hl:M.length<1000000) :
 Cal Tryz.prog 158 [.agg (itC t).toArray,Pj b] w fun r w'=>r = .bool (decide (t.maker∈M))/\Ext w w':=by
 refine Fi Tryz.func158 rfl _ rfl rfl (Hh ?_);intro b1 w1 hn1;refine Hh ?_;have h1:At w1 b1 59 (itC t):=hn1.At;refine⟨_,(hb.ext hn1.ext).one0,Hh ?_⟩;refine⟨.string t.maker,h1.one rfl,Hh ?_⟩;refine(Qay M A c t.maker w1 (hs.ext hn1.ext) hl).mono ?_;rintro _ w2 ⟨rfl,hw2⟩;subst hw2;refine Hh ?_;exact⟨rfl,hn1.ext⟩
theorem Q7a (b3 b9:Nat) (now span:Int) (t:It) (w:World) (h3:At w b3 3 [Vj now]) (h9:At w b9 3 [Vj span]) (hnow:0<=now/\now<=1099511627776) (hb:0<=t.born/\t.born<=1099511627776) :
 Cal Tryz.prog 159 [.agg (itC t).toArray,Pj b3,Pj b9] w fun r w'=>r = .bool (decide (now-t.born<=span))/\Ext w w':=by
 refine Fi Tryz.func159 rfl _ rfl rfl (Hh ?_);intro b1 w1 hn1;refine Hh ?_;have h1:At w1 b1 59 (itC t):=hn1.At;refine⟨_,(h3.ext hn1.ext).one0,Hh ?_⟩;refine⟨Vj t.born,h1.one rfl,Hh ?_⟩;refine⟨now-t.born,wrap_eq rfl ⟨Om,Om⟩,Hh ?_⟩;refine⟨_,(h9.ext hn1.ext).one0,Hh ?_⟩;exact⟨rfl,hn1.ext⟩
theorem Q8s {z:List Ev} (hz:z.length<1000) (now:Int) (q:It->Bool):((Q1a z now q).map (·.1)).length<1000:=by
 have h1:=(Qsr z now q).length_eq;have h2:=Zc q (thC z now);have h3:=Qvq z now;have h4:=Xgp z now;rw[Zf] at h1 ⊢;rw[Zf] at h1;omega
theorem Qr9 {w:World} {T:Nat->Prop} {p:Nat} {c:Cfg} {z:List Ev} {v:Value} (h:WQ w T p c z v) (hok:Qm7 c z) (person:Bj) (now limit:Int) (hl:0<=limit/\limit<=9223372036854775807) :
 Cal Tryz.prog 90 [Pj p,.string person,Vj now,Vj limit] w fun r w'=>Qm6 c z person now limit 3 w r w':=by
 have hlen:=hok.len;have hrs:=Qeg c.width z h.rise h.may;have hrl:=Qv7 c.width z;refine Fi Tryz.func90 rfl _ rfl rfl (Hh ?_);refine(X6 h).mono ?_;rintro _ w1 ⟨pw,S,rfl,hcr,hx1⟩;refine Hh ?_;refine(Qio w1 S pw _ _ hcr (fun r hr=>(hrs r hr).1) Om person).mono ?_;rintro _ w2 ⟨A2,c2,rfl,hown2,hx2⟩;have hin:∀ t:It,decide (t.maker∈Xi ((Qav (Xk (Qi c.width z).rs).follows person (hist (evs (Qi c.width z).rs) person)).map (·.1)))=Xg8 z person t:=fun t=>(by unfold Xg8;rw[Zbx,decide_eq_true_iff,Qf4,Q68,(Qbz c.width z).2,Qqh])
 have hMl:(Xi ((Qav (Xk (Qi c.width z).rs).follows person (hist (evs (Qi c.width z).rs) person)).map (·.1))).length<1000000:=by
  rw[Qcf,Zf]
  have h1:∀ (fl:List (LK×Bool)) (hh:List Ev),(Qav fl person hh).length<=hh.length:=fun fl=>by
   refine Qv (by simp[Qav]) fun hh e ih => ?_
   rw[Qeh];split
   . have:=Qb3 e.text true (Qav fl person hh);simp;omega
   . simp;omega
  have h2:=h1 (Xk (Qi c.width z).rs).follows (hist (evs (Qi c.width z).rs) person);have h3:(hist (evs (Qi c.width z).rs) person).length<=(evs (Qi c.width z).rs).length:=Zc _ _;have h4:(evs (Qi c.width z).rs).length=(Qi c.width z).rs.length:=Zf _;omega
 have hs2:=hown2.sl Qw;generalize Xi ((Qav (Xk (Qi c.width z).rs).follows person (hist (evs (Qi c.width z).rs) person)).map (·.1))=M at hs2 hin hMl ⊢;refine Hh ?_;intro b3 w3 hn3;refine Hh ?_;refine Qc Qb (e:=ty36) rfl hn3.At rfl rfl rfl Oj fun w4 h4 ho4 => ?_
 have h4:At w4 b3 36 [.slice A2 M.length c2]:=h4;have hx24:Ext w2 w4:=ho4.ext hn3.ext (by rw[hn3.block];exact Zg _);have hx4:=(hx1.trans hx2).trans hx24;refine Hh ?_;refine(Qoj (h.ext hx4) hok now 158 (Pj b3) [] (Xg8 z person) fun t _ w' hx => ?_).mono ?_
 . rw[<- hin t];exact Q69 b3 M A2 c2 t w' (h4.ext hx) ((hs2.ext hx24).ext hx) hMl
 rintro _ w5 ⟨A5,c5,rfl,hown5,hx5⟩;have hnl:=Q8s hlen now (Xg8 z person);refine Hh ?_;refine(Qiv _ A5 c5 w5 (hown5.sl Qw) hown5.le Om limit hl).mono ?_;rintro _ w6 ⟨A6,c6,rfl,hown6,hx6⟩;refine Hh ?_;have hF:(Qev c z person now 3).take limit.toNat=((Q1a z now (Xg8 z person)).map (·.1)).take limit.toNat:=rfl;rw[hF];exact⟨A6,c6,rfl,hown6.base (hx4.trans hx5).size,(hx4.trans hx5).trans hx6⟩
theorem Qpx {w:World} {T:Nat->Prop} {p:Nat} {c:Cfg} {z:List Ev} {v:Value} (h:WQ w T p c z v) (hok:Qm7 c z) (person:Bj) (now limit:Int) (hnow:0<=now/\now<=1099511627776) (hl:0<=limit/\limit<=9223372036854775807) :
 Cal Tryz.prog 91 [Pj p,.string person,Vj now,Vj limit] w fun r w'=>Qm6 c z person now limit 4 w r w':=by
 have hlen:=hok.len;refine Fi Tryz.func91 rfl _ rfl rfl (Hh ?_);intro b1 w1 hn1;refine Hh ?_;have h1:At w1 b1 3 [Vj now]:=hn1.At;refine(Qbc (h.ext hn1.ext)).mono ?_;rintro _ w2 ⟨rfl,hx2⟩;refine Hh ?_;intro b3 w3 hn3;refine Hh ?_;refine Qc Qb (e:=ty3) rfl hn3.At rfl rfl rfl Oj fun w4 h4 ho4 => ?_
 have h4:At w4 b3 3 [Vj c.span]:=h4;have hx24:Ext w2 w4:=ho4.ext hn3.ext (by rw[hn3.block];exact Zg _);have hx14:=hx2.trans hx24;have hx4:=hn1.ext.trans hx14;replace h1:=h1.ext hx14;refine Hh ?_;refine⟨_,h1.one0,Hh ?_⟩;refine(Qoj (h.ext hx4) hok now 159 (Pj b1) [Pj b3] (Xix c now) fun t ht w' hx => ?_).mono ?_
 . obtain⟨n,_,rfl⟩:=Zh.1 ht;have hb:=(Xfc h.may n now).2.2.2.2;exact Q7a b1 b3 now c.span _ w' (h1.ext hx) (h4.ext hx) hnow hb
 rintro _ w5 ⟨A5,c5,rfl,hown5,hx5⟩;have hnl:=Q8s hlen now (Xix c now);refine Hh ?_;refine(Qiv _ A5 c5 w5 (hown5.sl Qw) hown5.le Om limit hl).mono ?_;rintro _ w6 ⟨A6,c6,rfl,hown6,hx6⟩;refine Hh ?_;have hF:(Qev c z person now 4).take limit.toNat=((Q1a z now (Xix c now)).map (·.1)).take limit.toNat:=rfl;rw[hF];exact⟨A6,c6,rfl,hown6.base (hx4.trans hx5).size,(hx4.trans hx5).trans hx6⟩
end Go.Proofs.YtpdonaienhociaaGreatDoor
namespace Go.Proofs.YtpdonaienhociaaGreatDoor
open Go.Se Go.RowKit Go.Sort Go.Shelf
def kpV (kp:Ct->Bool) (x:Bj×Value):Bool:=match x.2 with
 | .int _ n=>kp (x.1,n)
 | _=>false
theorem Q3o (kp:Ct->Bool) (L:List Ct):(Xj vi L).filter (kpV kp)=Xj vi (L.filter kp):=by
 unfold Xj;rw[List.filter_map];rfl
set_option maxHeartbeats 1000000 in
theorem Q8j (w:World) (bm:Nat) (L:List Ct) (hm:MapAt w bm Value.string (Xj vi L)) (fv:FuncId) (c0:Value) (cr:List Value) (kp:Ct->Bool)
 (hf:∀ x∈L,∀ w',Mod (fun k=>k=bm) w w'->Cal Tryz.prog fv (.string x.1 :: Vj x.2 :: c0 :: cr) w' fun r w2=>r = .bool (!kp x)/\Ext w' w2) :
 Cal Tryz.prog 161 [.map (some bm),.func (.func fv) #[] (c0 :: cr).toArray] w fun r w'=>r = .tuple #[]/\MapAt w' bm Value.string (Xj vi (L.filter kp))/\Mod (fun k=>k=bm) w w':=by
 have hbl:=hm.lt;have hLl:(Xj vi L).length=L.length:=by simp[Xj]
 refine Fi Tryz.func161 rfl _ rfl rfl (Hh ?_);refine map_range Qw0 hm fun w1 hi1 hx1 => ?_
 generalize hr:w.heap.size=r at hi1 ⊢;refine Gg ?_
 refine Qh Qb (fun(vs:List (Bj×Value)) w'=>Mod (fun k=>k=bm) w w'/\Qxa w' r bm Value.string (kpV kp) (Xj vi L) vs)
  (fun _ => [(0,.map (some bm)),(1,.func (.func fv) #[] (c0 :: cr).toArray),(7,Pj r)]) (fun vs=>L.length-vs.length) [] ⟨Mod.of_ext hx1,hi1.del⟩ Rr ?_
 rintro vs w2 ⟨hM2,hi2⟩;refine Gg ?_;refine Q8f hi2 (fun hp => ?_) (fun x w3 hin hlt hi3 ho3 hen => ?_)
 . refine Gg ?_;constructor
   . intro hh;cases hh
   intro _;refine Gg ?_;rw[Q3o] at hp;exact⟨rfl,hp,hM2⟩
 . have hM3:Mod (fun k=>k=bm) w w3:=Qn hM2 (Qj ho3 (.inr Om));obtain⟨y,hy,rfl⟩:∃ y∈L,x=(y.1,vi y.2):=(by unfold Xj at hin;obtain⟨y,hy,he⟩:=Zh.1 hin;exact⟨y,hy,he.symm⟩);have hcl:=hf y hy w3 hM3;have hkv:kpV kp (y.1,vi y.2)=kp y:=rfl;generalize hky:kp y=ky at hcl hkv;rw[hLl] at hlt;refine Gg ?_;constructor
   . intro _;refine Gg ?_;refine Qaw (hen w3 rfl rfl) ?_;refine Gg ?_;refine hcl.mono ?_;rintro _ w4 ⟨rfl,hx4⟩;replace hi3:=hi3.ext hx4;have hM4:=hM3.trans (Mod.of_ext (S:=fun k=>k=bm) hx4);refine Gg ?_;constructor
     . intro hq;have hq:ky=false:=Su hq;refine Gg ?_;refine Qyl Qw0 (Qo Xb) hi3 (hkv.trans hq) fun w5 hi5 ho5 => ?_
       refine Gg ?_;exact⟨vs ++ [(y.1,vi y.2)],by simp;omega,⟨hM4.trans (Qj ho5 rfl),hi5⟩,Rr⟩
     . intro hq;have hq:ky=true:=Su hq;refine Gg ?_;exact⟨vs ++ [(y.1,vi y.2)],by simp;omega,⟨hM4,hi3.kept (hkv.trans hq)⟩,Rr⟩
   . intro hh;cases hh
theorem Qt4 {w:World} {T:Nat->Prop} {p:Nat} {c:Cfg} {z:List Ev} {v:Value} (h:WQ w T p c z v) (b4 b5:Nat) (person item:Bj) (n:Int) (h4:At w b4 38 [Pj p]) (h5:At w b5 9 [.string person]) :
 Cal Tryz.prog 162 [.string item,Vj n,Pj b4,Pj b5] w fun r w'=>r = .bool (!keepR (Qi c.width z).rs person (item,n))/\Ext w w':=by
 have hkb:(!keepR (Qi c.width z).rs person (item,n))=(decide (n<=0)||(Qij (Qi c.width z).rs person item||Q5w (Qi c.width z).rs person item)):=by unfold keepR;rw[Bool.not_not]
 rw[hkb];refine Fi Tryz.func162 rfl _ rfl rfl (Hh ?_);refine Dr .ext [0,1,2,3,5,6,4,7,8,9,10,12,13,11] [14,15,16] (Hh ?_);have hxd:Ext w w.drew:=(Ext.refl w).drew;replace h:=h.ext hxd;replace h4:=h4.ext hxd;replace h5:=h5.ext hxd;generalize w.drew=w0 at h h4 h5 hxd ⊢;generalize decide (n<=0)=q0;refine⟨_,fun _=>h4.one0,Hh ?_⟩;refine⟨_,fun _=>h5.one0,Hh ?_⟩;refine⟨Nat,fun pw => Pj pw,fun pw w'=>(∃ S,X3 w' S pw (Xd c.half) (Qi c.width z).rs)/\Ext w0 w',0,fun _=>(X6 h).mono fun r w' hh => ?_,?_⟩
 . obtain⟨pw,S,h1,h2,h3⟩:=hh;exact⟨pw,h1,⟨S,h2⟩,h3⟩
 intro pw w1 hh
 have hx1:Ext w0 w1:=by
  rcases hh with⟨_,hh⟩ | ⟨_,hh⟩
  . exact hh.2
  . rw[hh];exact Ext.refl _
 have hS1:q0=false->∃ S,X3 w1 S pw (Xd c.half) (Qi c.width z).rs:=fun hl=>by
  rcases hh with⟨_,hh⟩ | ⟨hg,_⟩
  . exact hh.1
  . exact(hg ⟨hl,trivial⟩).elim
 clear hh;replace h:=h.ext hx1;replace h4:=h4.ext hx1;replace h5:=h5.ext hx1;refine⟨hx1,?_⟩;refine Hh ?_;refine⟨Unit,fun _ => .bool (Qij (Qi c.width z).rs person item),fun _ w'=>Ext w1 w',(),fun hg => ?_,?_⟩
 . obtain⟨S,hc⟩:=hS1 hg;refine(Qu0 w1 S pw _ _ hc person item).mono ?_;rintro r w' ⟨hr,hx⟩;exact⟨(),hr,hx⟩
 rintro ⟨⟩ w2 hh
 have hx2:Ext w1 w2:=by
  rcases hh with⟨_,hh⟩ | ⟨_,hh⟩
  . exact hh
  . rw[hh];exact Ext.refl _
 clear hh;replace h:=h.ext hx2;replace h4:=h4.ext hx2;replace h5:=h5.ext hx2;refine⟨hx2,?_⟩;refine Hh ?_;generalize Qij (Qi c.width z).rs person item=q1;refine⟨_,fun _=>h4.one0,Hh ?_⟩;refine⟨_,fun _=>h5.one0,Hh ?_⟩;refine⟨Nat,fun pw => Pj pw,fun pw w'=>(∃ S,X3 w' S pw (Xd c.half) (Qi c.width z).rs)/\Ext w2 w',0,fun _=>(X6 h).mono fun r w' hh => ?_,?_⟩
 . obtain⟨pw,S,h1,h2,h3⟩:=hh;exact⟨pw,h1,⟨S,h2⟩,h3⟩
 intro pw3 w3 hh
 have hx3:Ext w2 w3:=by
  rcases hh with⟨_,hh⟩ | ⟨_,hh⟩
  . exact hh.2
  . rw[hh];exact Ext.refl _
 have hS3:(q0||q1)=false->∃ S,X3 w3 S pw3 (Xd c.half) (Qi c.width z).rs:=fun hl=>by
  rcases hh with⟨_,hh⟩ | ⟨hg,_⟩
  . exact hh.1
  . exact(hg ⟨hl,trivial⟩).elim
 clear hh;replace h:=h.ext hx3;replace h4:=h4.ext hx3;replace h5:=h5.ext hx3;refine⟨hx3,?_⟩;refine Hh ?_;refine⟨Unit,fun _ => .bool (Q5w (Qi c.width z).rs person item),fun _ w'=>Ext w3 w',(),fun hg => ?_,?_⟩
 . obtain⟨S,hc⟩:=hS3 hg;refine(Qn0 w3 S pw3 _ _ hc person item).mono ?_;rintro r w' ⟨hr,hx⟩;exact⟨(),hr,hx⟩
 rintro ⟨⟩ w4 hh
 have hx4:Ext w3 w4:=by
  rcases hh with⟨_,hh⟩ | ⟨_,hh⟩
  . exact hh
  . rw[hh];exact Ext.refl _
 clear hh;refine⟨?_,((hxd.trans hx1).trans (hx2.trans hx3)).trans hx4⟩;rw[Bool.or_assoc]
def Q6w (L:List Ct) (a b:Bj):Int:=orL [Qcy ((Qe L b).getD 0) ((Qe L a).getD 0),Qch a b]
theorem Qsj (L:List Ct) (a b:Bj):ltOf (Q6w L) a b=Qlm (a,(Qe L a).getD 0) (b,(Qe L b).getD 0):=by rw[<- Qkv];rfl
theorem Q6x (L:List Ct):SWO (ltOf (Q6w L)) where
 irrefl x:=by rw[Qsj];exact Qe6.irrefl _
 trans x y z h k:=by rw[Qsj] at *;exact Qe6.trans _ _ _ h k
 ntrans x y z h k:=by rw[Qsj] at *;exact Qe6.ntrans _ _ _ h k
theorem Q16 (bl bm:Nat) (L:List Ct) (a b:Bj) (w:World) (hb:At w bl 265 [.map (some bm)]) (hm:MapAt w bm Value.string (Xj vi L)) :
 Cal Tryz.prog 164 [.string a,.string b,Pj bl] w fun r w'=>r = Vj (Q6w L a b)/\Gr w w':=by
 have hlk:∀ x:Bj,RdS Tryz.prog .same w (Instr.lookup 265 (.map (some bm)) (.string x) false) (Vj ((Qe L x).getD 0)):=fun x=>(by have hlk:=Xz Qw0 (Qo Xb) (e:=ty2) ty2_ok (cl := .same) Qp hm x;rw[show ty2.zero=vi 0 from rfl,Xo] at hlk;exact hlk)
 refine Fi Tryz.func164 rfl _ rfl rfl (Hh ?_);refine⟨_,hb.one0,Hh ?_⟩;refine⟨_,hlk b,Hh ?_⟩;refine⟨_,hb.one0,Hh ?_⟩;refine⟨_,hlk a,Hh ?_⟩;refine(Qfn _ _ _).mono ?_;rintro _ w7 ⟨rfl,hw7⟩;subst hw7;refine Hh ?_;refine(Qac _ _ _).mono ?_;rintro _ w8 ⟨rfl,hw8⟩;subst hw8;refine Hh ?_;intro b9 w9 hn9;refine Hh ?_;refine(Qen [Qcy ((Qe L b).getD 0) ((Qe L a).getD 0),Qch a b] _ _ _ (Qak (enc:=Qfu) X4 hn9) (by simp)).mono ?_;rintro _ w10 ⟨rfl,hw10⟩;subst hw10;refine Hh ?_;exact⟨rfl,Qae hn9⟩
theorem Xi3 {L:List Ct} (hn:L.Pairwise fun x y=>x.1≠y.1) {F:List Bj} (hp:F.Perm (L.map (·.1))) (hs:Srt (ltOf (Q6w L)) F):F=(Qgk L).map (·.1):=by
 have h:F.map (fun k=>((k,(Qe L k).getD 0):Ct))=Qgk L:=Qth (by
  have h1:=hp.map (fun k=>((k,(Qe L k).getD 0):Ct));rw[Zy] at h1;refine h1.trans ?_
  have:L.map ((fun k=>((k,(Qe L k).getD 0):Ct)) ∘ fun x=>x.1)=L:=by
   conv=>rhs;rw[<- List.map_id L]
   refine Za7 fun x hx => ?_
   have:=Qdk hn (k:=x.1) (v:=x.2) hx;simp only[Function.comp,this,Zaj,id]
  rw[this]) (by
  unfold Srt;rw[Z7];refine hs.imp fun {a b} h => ?_
  rw[<- Qsj];exact h)
 have h2:=congrArg (List.map (·.1)) h;rw[Zy] at h2;rw[<- h2]
 conv=>lhs;rw[<- List.map_id F]
 rfl
theorem Qyb (mb:Option Nat) (w:World):Cal Tryz.prog 163 [.map mb] w fun r w'=>r = .func (.func 230) #[] #[Pj w.heap.size]/\w'.cell? ⟨w.heap.size,0,none⟩=some (.map mb)/\Ext w w' :=
 Qfw Tryz.keys163 ⟨_,Tryz.func163,rfl,rfl⟩ mb w
theorem Qpq {w:World} {Bm b:Nat} {L:List (Bj×Value)} (hc:w.cell? ⟨Bm,0,none⟩=some (.map (some b))) (hm:MapAt w b Value.string L) (hk:∀ x∈L,x.1.size<=1000000) (hl:L.length<=1000000000) :
 Cal Tryz.prog 93 [.func (.func 230) #[] #[Pj Bm]] w fun r w'=>∃ A c K,r = .slice A K.length c/\K.Perm (L.map (·.1))/\Own Qab 1 9 w.heap.size w' A c K/\Ext w w':=by
 obtain⟨N,Q,h1,h2,h3⟩:=Qg8 { Tryz.keys163 with } hc hm hk hl;exact Qrv { Tryz.sorted38 with } (enters_of Tryz.func230 Kr rfl) ⟨_,Tryz.func93,rfl,rfl⟩ h2 h1 h3
theorem Q3t (half now:Int) (l:List Ev) (k:Nat) (h:k<l.length):Qfi half now (l.take (k+1))=Qlk half now (Qfi half now (l.take k)) l[k]:=by
 rw[Za h,Qhx]
theorem Q78 (half now:Int):∀ l:List Ev,(Qfi half now l).length<=l.length:=by
 refine Qv (by simp[Qfi]) fun l e ih => ?_
 rw[Qhx,Zo,Z8,Zam];unfold Qlk;have:=Qb3 e.item ((Qe (Qfi half now l) e.item).getD 0+Qp1 half now e) (Qfi half now l);omega
theorem Q64 {z:List Ev} (hm:∀ e∈z,X0 e=true) (person:Bj):∀ e∈Qlg z person,X0 e=true:=fun e he=>by
 have h1:=(Ze.1 he).1;unfold Qej hist Qao at h1;exact hm e (Ze.1 (Ze.1 h1).1).1
theorem Xb5 {z:List Ev} (hm:∀ e∈z,X0 e=true) {person:Bj} {e:Ev} (he:e∈Qlg z person):e.item.size<=1000000:=by
 have h1:=(Ze.1 he);have h2:=Qeq (Q64 hm person e he) (Su h1.2);have:=Qds h2.2;omega
set_option maxHeartbeats 4000000 in
theorem Q17 {w:World} {T:Nat->Prop} {p:Nat} {c:Cfg} {z:List Ev} {v:Value} (h:WQ w T p c z v) (hok:Qm7 c z) (person:Bj) (now limit:Int) (hnow:0<=now/\now<=1099511627776) (hl:0<=limit/\limit<=9223372036854775807) :
 Cal Tryz.prog 92 [Pj p,.string person,Vj now,Vj limit] w fun r w'=>Qm6 c z person now limit 5 w r w':=by
 have hlen:=hok.len;have hm:=h.may;have hTl:=h.lt;have hdl:(Qlg z person).length<1000:=(by have h1:(Qlg z person).length<=(Qej z person).length:=Zc _ _;have h2:(Qej z person).length<=z.length:=Qmq z person;omega);have hdm:=Q64 hm person;have hdi:=fun e (he:e∈Qlg z person)=>Xb5 hm he
 have hF:(Qev c z person now 5).take limit.toNat=((Qgk ((Qfi c.half now (Qlg z person)).filter (keepR (Qi c.width z).rs person))).map (·.1)).take limit.toNat:=rfl;unfold Qm6;rw[hF];clear hF;refine Fi Tryz.func92 rfl _ rfl rfl (Hh ?_);intro b1 w1 hn1;have h1:At w1 b1 38 [Pj p]:=hn1.At;have e1:=hn1.block;refine Hh ?_;intro b2 w2 hn2;have h2:At w2 b2 9 [.string person]:=hn2.At;have e2:=hn2.block;replace h1:=h1.ext hn2.ext;refine Hh ?_;intro b3 w3 hn3;have hm3:MapAt w3 b3 Value.string (Xj vi ([]:List Ct)):=MapAt.new hn3;have e3:=hn3.block;replace h1:=h1.ext hn3.ext;replace h2:=h2.ext hn3.ext;refine Hh ?_;intro b4 w4 hn4;have e4:=hn4.block;refine Hh ?_;refine Qc Qb (e:=ty265) rfl hn4.At rfl rfl rfl Oj fun w5 h5 ho5 => ?_
 have h5:At w5 b4 265 [.map (some b3)]:=h5;have hx35:Ext w3 w5:=ho5.ext hn4.ext (by rw[hn4.block];exact Zg _);have hx05:Ext w w5:=((hn1.ext.trans hn2.ext).trans hn3.ext).trans hx35;have s1:=hn1.size;have s2:=hn2.size;have s3:=hn3.size;have s4:=hn4.size;have s0:=hn1.ext.size;have s5:=hx35.size;have z1:=hn1.ext.size;have z2:=hn2.ext.size;have z3:=hn3.ext.size;replace h1:=h1.ext hx35;replace h2:=h2.ext hx35;replace hm3:=hm3.ext hx35;clear hn1 hn2 hn3 hn4 ho5;have h41:b4≠b3:=Om;have h13:b1≠b3:=Om;have h23:b2≠b3:=Om;have l4:=h5.lt;refine Hh ?_;refine⟨_,h1.one0,Hh ?_⟩;refine⟨_,h2.one0,Hh ?_⟩;refine(Qqc (h.ext hx05) person).mono ?_;rintro _ w6 ⟨A6,c6,rfl,hown6,hx6⟩;have hs6:=hown6.sl Qag;have hA6:∀ a,A6=some a->a.block≠b3:=fun a ha=>by have:=(hown6.block ha).1;omega
 replace h1:=h1.ext hx6;replace h2:=h2.ext hx6;replace h5:=h5.ext hx6;replace hm3:=hm3.ext hx6;have hx06:=hx05.trans hx6;have hst:=fun k hk=>Q3t c.half now (Qlg z person) k hk
 have hbd:=fun l (hl:∀ e∈l,X0 e=true) x=>Qoc c.half now x l hl
 have hln:=Q78 c.half now (Qlg z person);have hky:=Qkt c.half now (Qlg z person);have hki:∀ x∈Qfi c.half now (Qlg z person),x.1.size<=1000000:=fun x hx=>(by obtain⟨e,he,hi⟩:=Zh.1 (Qvh hx).1;rw[<- hi];exact hdi e he)
 have hml:∀ k,∀ x,(Qe (Qfi c.half now ((Qlg z person).take k)) x).getD 0<=1000*5242880/\0<=(Qe (Qfi c.half now ((Qlg z person).take k)) x).getD 0:=fun k x=>by
  rw[Qqp];have hb:=Qoc c.half now x ((Qlg z person).take k) fun e he=>hdm e (Zbo he)
  have hkl:((Qlg z person).take k).length<=1000:=by rw[Zn];omega
  split
  . simp only[Zaj];omega
  . simp
 have hm0:Qfi c.half now ((Qlg z person).take 0) = []:=rfl;clear hdi hbd;generalize hQ:Qlg z person=Q at hs6 hdl hdm hst hln hky hki hml hm0 ⊢;refine Hh ?_
 refine Qh Qb (fun(q:Nat×List Ct) w'=>q.1<=Q.length/\Mod (fun k=>k=b3) w6 w'/\q.2=Qfi c.half now (Q.take q.1)/\MapAt w' b3 Value.string (Xj vi q.2))
  (fun | (k,_) => [(2,Vj now),(3,Vj limit),(4,Pj b1),(5,Pj b2),(9,Pj b4),(16,.slice A6 Q.length c6),(17,Vj Q.length),(18,Vj (k:Nat))]) (fun q=>Q.length-q.1) (0,[]) ⟨Zu _,Mod.refl _ _,hm0.symm,hm3⟩ Rr ?_
 clear hm3;have s6:=hx6.size;have hlow:∀ {w':World},Mod (fun k=>k=b3) w6 w'->∀ i,i<w6.heap.size->i≠b3->w'.heap[i]? = w6.heap[i]? := fun hM i hi hne=>hM.block i hi hne
 have hWw:∀ {w':World},Mod (fun k=>k=b3) w6 w'->WQ w' T p c z v:=fun hM=>h.keep fun k hk=>(by have:=hTl k hk;exact(hM.block k Om Om).trans (hx06.block k this))
 rintro ⟨k,m⟩ wa ⟨hk,hMa,hmm,hmap⟩;simp only at hk hmm hmap;refine Hh ?_;constructor
 . intro hlt;have hlt:k<Q.length:=Su hlt;obtain⟨ax,hAx,hcx⟩:=(Qk2.stay hs6 fun a ha hlt2=>hMa.block _ hlt2 (hA6 a ha)).get hlt;have htk:=hst k hlt;rw[<- hmm] at htk;have hme:=hdm Q[k] (Zx hlt);have hmb:=hml k Q[k].item;rw[<- hmm] at hmb;generalize Q[k]=e at hcx htk hme hmb;have hat:=Qvn hme;have htn:=Qh4 (half:=c.half) (now:=now) hme;refine Gg ?_;refine⟨ax,⟨hAx,Om,Om⟩,Gg ?_⟩;refine⟨evC e,⟨rfl,hcx⟩,Gg ?_⟩;intro b7 w7 hn7;refine Gg ?_;refine Qc Qb (e:=ty77) rfl hn7.At rfl rfl rfl (Qbg e) fun w8 h8 ho8 => ?_
   have h8:At w8 b7 77 (evC e):=h8;have hxa8:Ext wa w8:=ho8.ext hn7.ext (by rw[hn7.block];exact Zg _);clear ho8 hn7;refine Gg ?_;refine Dr .ext [0,1,2,3,4,6,7,8,9,10,5,11,12,13,14,15] [16] (Hh ?_);have hxd:Ext w8 w8.drew:=(Ext.refl w8).drew;replace h8:=h8.ext hxd;have hxa9:=hxa8.trans hxd;generalize w8.drew=w9 at h8 hxa9 ⊢;clear hxd hxa8;have hM9:=hMa.trans (Mod.of_ext (S:=fun k=>k=b3) hxa9);have h19:At w9 b1 38 [Pj p]:=(hM9.block b1 h1.lt h13).trans h1;have h59:At w9 b4 265 [.map (some b3)]:=(hM9.block b4 h5.lt h41).trans h5;have hmap9:=hmap.ext hxa9;refine⟨_,h59.one0,Gg ?_⟩;refine⟨.string e.item,h8.one rfl,Gg ?_⟩;have hlk:=Xz Qw0 (Qo Xb) (e:=ty2) ty2_ok (cl := .ext) (Qhv hmap9.lt) hmap9 e.item;rw[show ty2.zero=vi 0 from rfl,Xo] at hlk;refine⟨_,hlk,Gg ?_⟩;refine⟨evC e,⟨rfl,h8.all⟩,Gg ?_⟩;refine⟨Vj e.at_,h8.one rfl,Gg ?_⟩;refine⟨now-e.at_,wrap_eq rfl ⟨Om,Om⟩,Gg ?_⟩;refine⟨_,h19.one0,Gg ?_⟩;refine(Qcu e w9).mono ?_;rintro _ w10 ⟨rfl,hx10⟩;refine⟨hx10,Gg ?_⟩;have hM10:=hM9.trans (Mod.of_ext (S:=fun k=>k=b3) hx10);refine(Qbc (hWw hM10)).mono ?_;rintro _ w11 ⟨rfl,hx11⟩;refine⟨hx11,Gg ?_⟩;refine(Qgn (now-e.at_) c.half ⟨Om,Om⟩ w11).mono ?_;rintro _ w12 ⟨rfl,hw12⟩;subst hw12;refine⟨Ext.refl _,Gg ?_⟩;have htn':Qp1 c.half now e=Qy e*Qas (now-e.at_) c.half:=rfl;rw[htn'] at htn;refine⟨_,wrap_eq rfl ⟨Om,Om⟩,Gg ?_⟩;refine⟨_,wrap_eq rfl ⟨Om,Om⟩,Gg ?_⟩;have hx912:=hx10.trans hx11;refine Qx Qw0 (Qo Xb) (hmap9.ext hx912) e.item _ fun w13 hm13 ho13 => ?_
   have hm13:MapAt w13 b3 Value.string (Xj vi (Qlk c.half now m e)):=(by have:=hm13;unfold Qlk;rw[htn',<- Xa];exact this);have hM13:Mod (fun k=>k=b3) w6 w13:=(hM10.trans (Mod.of_ext (S:=fun k=>k=b3) hx11)).trans (Qj ho13 rfl);refine Gg ?_;refine⟨_,wrap_succ Om,Gg ?_⟩;exact⟨(k+1,Qlk c.half now m e),Sj,⟨Sj,hM13,htk.symm,hm13⟩,Rr⟩
 intro hge;have hge:Q.length<=k:=Su hge;rw[Zb hge] at hmm;rw[<- hmm] at hln hky hki ⊢;clear hst hml hmm hge;have h1a:At wa b1 38 [Pj p]:=(hMa.block b1 h1.lt h13).trans h1;have h2a:At wa b2 9 [.string person]:=(hMa.block b2 h2.lt h23).trans h2;have h5a:At wa b4 265 [.map (some b3)]:=(hMa.block b4 h5.lt h41).trans h5;have hWa:=hWw hMa;have sa:=hMa.size;refine Hh ?_;refine⟨_,h5a.one0,Hh ?_⟩;refine(Q8j wa b3 m hmap 162 (Pj b1) [Pj b2] (keepR (Qi c.width z).rs person) fun x _ w' hM => ?_).mono ?_
 . exact Qt4 (hWa.keep fun k hk=>by have:=hTl k hk;exact hM.block k Om Om) b1 b2 person x.1 x.2 ((hM.block b1 h1a.lt h13).trans h1a) ((hM.block b2 h2a.lt h23).trans h2a)
 rintro _ wb ⟨rfl,hmapb,hMb⟩;have h5b:At wb b4 265 [.map (some b3)]:=(hMb.block b4 h5a.lt h41).trans h5a;have hMfin:=hMa.trans hMb;have hky2:=hky.sublist (Zaw (p:=keepR (Qi c.width z).rs person));have hki2:∀ x∈Xj vi (m.filter (keepR (Qi c.width z).rs person)),x.1.size<=1000000:=fun x hx=>(by unfold Xj at hx;obtain⟨y,hy,rfl⟩:=Zh.1 hx;exact hki y (Ze.1 hy).1)
 have hfl:=Zc (keepR (Qi c.width z).rs person) m;generalize m.filter (keepR (Qi c.width z).rs person)=L at hmapb hky2 hki2 hfl ⊢;have hvl:(Xj vi L).length=L.length:=by simp[Xj]
 have hvk:(Xj vi L).map (·.1)=L.map (·.1):=by unfold Xj;rw[Zy];rfl
 refine Hh ?_;refine⟨_,h5b.one0,Hh ?_⟩;refine(Qyb (some b3) wb).mono ?_;rintro _ wc ⟨rfl,hcc,hxc⟩;refine Hh ?_;refine(Qpq hcc (hmapb.ext hxc) hki2 Om).mono ?_;rintro _ wd ⟨A7,c7,K,rfl,hKp,hown7,hxd⟩;rw[hvk] at hKp;have hKl:K.length<1000:=by have:=hKp.length_eq;rw[Zf] at this;omega
 have hxbd:=hxc.trans hxd;have h5d:=h5b.ext hxbd;have hmapd:=hmapb.ext hxbd;have sb:=hMb.size;have sc:=hxc.size;have hA7:∀ a,A7=some a->wc.heap.size<=a.block:=fun a ha=>(hown7.block ha).1
 refine Hh ?_;refine(Xad Tryz.sortTxt { Tryz.sortTxt with } (Q6w L) (Q6x L) ⟨_,Tryz.func135,rfl,rfl⟩ (enters_of Tryz.func164 Kr rfl) K A7 c7 wc.heap.size wd hown7 Om (cb := #[Pj b4]) fun x y w' hkw => ?_).mono ?_
 . exact Q16 b4 b3 L x y w' ((hkw b4 (fun a ha e=>by have:=hA7 a ha;have:=h5b.lt;omega) h5d.lt).trans h5d) (hmapd.keep (hkw b3 (fun a ha e=>by have:=hA7 a ha;have:=hmapb.lt;omega) hmapd.lt))
 rintro _ we ⟨rfl,F,hFp,hFs,hFsl,hxe⟩;have hFe:=Xi3 hky2 (hFp.trans hKp) hFs;have hFl:F.length=K.length:=hFp.length_eq;have hle:=hown7.le;rw[<- hFl] at hle;refine Hh ?_;rw[<- hFl,<- hFe];refine(Qiv F A7 c7 we hFsl hle Om limit hl).mono ?_;rintro _ wf ⟨A8,c8,rfl,hown8,hxf⟩;refine Hh ?_;have hx0b:Ext w wb:=Qdr hx06 (fun k hk=>Om) hMfin;have hx0f:Ext w wf:=hx0b.trans ((hxe wb hxbd sc).trans hxf);exact⟨A8,c8,rfl,hown8.base (hx0b.trans (hxe wb hxbd sc)).size,hx0f⟩
