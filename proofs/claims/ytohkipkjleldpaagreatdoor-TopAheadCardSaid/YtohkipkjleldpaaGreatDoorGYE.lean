/- Several texts in one: Sk1, Map3, Y11, Y12, Y13. -/
import Derived.Test.YtohkipkjleldpaaGreatDoorGYB
import Derived.Test.YtohkipkjleldpaaGreatDoorGI
import Derived.Test.YtohkipkjleldpaaGreatDoorGH
import Derived.Test.YtohkipkjleldpaaGreatDoorGB
import Derived.Test.YtohkipkjleldpaaGreatDoorGYC
import Derived.Test.YtohkipkjleldpaaGreatDoorGM
import Derived.Test.YtohkipkjleldpaaGreatDoorGYA
set_option linter.unusedVariables false
set_option linter.unusedSimpArgs false
namespace Go.Proofs.YtohkipkjleldpaaGreatDoor
open Go.Se Go.RowKit Go.Sort Go.Shelf
theorem Xbk:OneCell Value.string:=fun _=>rfl
theorem Q3k {w:World} {g:Nat} {cur:Array Value} {e:TypeId} {l:List ByteArray} (hb:w.heap[g]? = some (.cells cur e (0,0))) (ht:cur.toList.take l.length=l.map Value.string):Holds Value.string w g 0 l.toArray:=by
 intro j hj;have hj':j<l.length:=by simpa using hj
 refine⟨?_,by simp[World.frozen?,hb]⟩;have h1:(cur.toList.take l.length)[j]? = (l.map Value.string)[j]? := by rw[ht]
 rw[List.getElem?_take,if_pos hj',List.getElem?_map,List.getElem?_eq_getElem hj'] at h1;rw[getElem!_pos l.toArray j hj];simp only[World.cell?,hb,Nat.zero_add,List.getElem_toArray]
 simpa using h1
theorem Qka (enc:ByteArray→Value) (w:World) (blk off:Nat) (d:Array ByteArray) (k:Nat) (h:k≠blk):(putRow enc w blk off d).heap[k]? = w.heap[k]? := by
 unfold putRow mapBlock;simp only[Array.getElem?_modify,if_neg (Ne.symm h)]
theorem Qhj (enc:ByteArray→Value) (w:World) (blk off:Nat) (d:Array ByteArray):(putRow enc w blk off d).heap.size=w.heap.size:=by
 unfold putRow mapBlock;simp only[Array.size_modify]
section
variable {P:Program} {ρ:Ren}
theorem Q5w (S:SlLaysF.n6 P ρ) (S0:SlLaysF0.n6 P ρ) (cmp:ByteArray→ByteArray→Int) (hswo:Go.Sort.SWO (ltOf cmp)) (hok:Qt2 P (ρ.f 6)) {f:Nat} {cb:Array Value} (eg:∀ args w,(callFunc f args).run P w = .ok (.enter f args) w)
 (l:List ByteArray) (A:Option Addr) (c base:Nat) (w:World) (hown:Own Qav 1 (ρ.t 24) base w A c l) (hl:l.length<1000000)
 (hcl:∀ x y w',(∀ k,(∀ a,A=some a→k≠a.block)→k<w.heap.size→w'.heap[k]? = w.heap[k]?)→Cal P f ([.string x,.string y]++cb.toList) w' fun r w''=>r = .int .i64 (cmp x y)∧Gr w' w'') :
 Cal P (ρ.f 6) [.slice A l.length c,.func (.func f) #[] cb] w fun r w'=>r = .tuple #[]∧∃ F,F.Perm l∧Srt (ltOf cmp) F∧SlT w' A F∧∀ w0,Ext w0 w→w0.heap.size≤base→Ext w0 w':=by
 by_cases h0:l = []
 · subst h0
   refine Qa3 hok (AnyF.slices_SortFunc_none S0 A c _ w) ?_;rintro w' rfl
   exact⟨rfl,[],List.Perm.refl _,Srt.nil,Sl.nil,fun w0 h _=>h⟩
 · have hsl:=hown.sl Xi
   have hpos:0<l.length:=List.length_pos_iff.2 h0;rcases hown.2 with⟨_,h1⟩ | ⟨g,cap,cur,hv,hb,hg,hc1,hc2,hc3,hc4⟩
   · omega
   injection hv with hA _ hcc;subst hA;subst hcc;have hH:Holds Value.string w g 0 l.toArray:=Q3k hg (by rw[Nat.mul_one] at hc4;rw[hc4,show Qav=fun x => [Value.string x] from rfl,Qfk]);have hbl:g<w.heap.size:=lt_of_block hg
   have hcmp:CmpLays1 P f cb Value.string cmp g 0 l.toArray.size w:=by
    intro m os dk _ x y
    have hkeep:∀ k,(∀ a,some (⟨g,0,none⟩:Addr)=some a→k≠a.block)→k<w.heap.size→(sortWorld Value.string w g 0 m dk os).heap[k]? = w.heap[k]? := by
     intro k hk hk2;have hkg:k≠g:=hk ⟨g,0,none⟩ rfl;have h1:(putRow Value.string (Go.Sort.ahead w m) g 0 dk).heap[k]? = (Go.Sort.ahead w m).heap[k]? := Qka _ _ _ _ _ _ hkg;have hsz1:w.heap.size=(putRow Value.string (Go.Sort.ahead w m) g 0 dk).heap.size:=by rw[Qhj];rfl
     have h2:=(Qfb (putRow Value.string (Go.Sort.ahead w m) g 0 dk) os).block k (by omega);unfold sortWorld;rw[h2,h1]
     rfl
    have:=(hcl x y (sortWorld Value.string w g 0 m dk os) hkeep).2;have e1:([Value.string x,Value.string y]++cb.toList).toArray = #[Value.string x,Value.string y]++cb:=by simp
    rw[e1] at this;refine this.mono ?_;rintro e w' ⟨v,he,hv,q,os',hw⟩
    exact⟨by rw[he,hv],q,os',hw⟩
   have hcall:=Any.slices_SortFunc S Value.string Xbk cmp hswo f cb g 0 c l.toArray w eg hcmp hH hbl (by simp;omega);rw[List.size_toArray] at hcall;refine Qa3 hok hcall ?_;rintro w' ⟨d',n,os,hp,hs,rfl⟩;have hsz:d'.size=l.length:=by simpa using hp.1
   have hperm:d'.toList.Perm l:=by
    have:=hp.2.2;have e1:d'.extract 0 l.length=d':=by rw[← hsz];exact Array.extract_size
    have e2:l.toArray.extract 0 l.length=l.toArray:=by simp
    rw[e1,e2] at this
    simpa using this
   have hH2:Holds Value.string (sortWorld Value.string w g 0 n d' os) g 0 d':=by
    unfold sortWorld;refine holds_grow _ _ _ _ _ _ ?_ (holds_putRow _ _ _ _ l.toArray d' (holds_ahead _ _ _ _ _ _ hH) (by simpa using hsz));rw[Qhj];exact hbl
   refine⟨rfl,d'.toList,hperm,?_,?_,?_⟩
   · unfold Srt
     rw[List.pairwise_iff_getElem];intro i j hi hj hij;have hi':i<d'.size:=by simpa using hi
     have hj':j<d'.size:=by simpa using hj
     have:=hs i j (Nat.zero_le _) hij (by omega);rw[getElem!_pos d' i hi',getElem!_pos d' j hj'] at this
     simpa using this
   · intro i x hi
     have hlt:i<d'.size:=by have:=(List.getElem?_eq_some_iff.1 hi).1;simpa using this
     refine⟨_,rfl,fun j v hj => ?_⟩
     have hj0:j=0:=by
      have:=(List.getElem?_eq_some_iff.1 hj).1;have e:(Qav x).length=1:=Xi x;omega
     subst hj0;have:=(hH2 i hlt).1;have hx:d'[i]! = x:=by rw[getElem!_pos d' i hlt];have:=List.getElem?_eq_some_iff.1 hi;simpa using this.2
     rw[hx,Nat.zero_add] at this;rw[Xe,Qhs,Nat.mul_one,Nat.add_zero,this]
     simpa [Qav] using hj
   · intro w0 h0 hb0
     have hx1:Ext w0 (putRow Value.string (Go.Sort.ahead w n) g 0 d'):=by
      refine⟨h0.os,h0.tape,h0.output,?_,fun k hk => ?_⟩
      · rw[Qhj];exact h0.size
      · rw[Qka _ _ _ _ _ _ (by omega)];exact h0.block k hk
     exact hx1.trans (Qfb _ os)
theorem Qo7 {ρ6:Ren} (S:SlLaysZ.n8 P ρ6) {g:Nat} {lb:Array Value} (eg:∀ args w,(callFunc g args).run P w = .ok (.enter g args) w)
 (hok:Qt2 P (ρ6.f 8)) {w:World} {l:List ByteArray} {N:Nat} {Q:List (List UInt8)→Prop} (hQ:∀ ss,Q ss→ss.Perm (l.map fun x=>x.data.toList)) (hN:N≤1000000000) (hseq:SeqGives Fence.wide 2 P g lb encStr Q N w) :
 Cal P (ρ6.f 8) [.func (.func g) #[] lb] w fun r w'=>∃ A c K,r = .slice A K.length c∧K.Perm l∧Own Qav 1 (ρ6.t 26) w.heap.size w' A c K∧Ext w w':=by
 have hS:=AnyZ.collect_in S Fence.wide 4 trivial trivial rfl (by omega) g lb trivial eg _ N (by unfold maxLen;omega) (by omega) w hseq;refine⟨hok,(callsIn_wide.1 hS).mono ?_⟩;rintro e w' ⟨v,ss,rfl,hp,hrow,_,hb⟩;have hkeys:=hQ ss hp;obtain⟨K,hK⟩:∃ K:List ByteArray,K=ss.map (fun x=>(⟨x.toArray⟩:ByteArray)):=⟨_,rfl⟩
 have hKl:K.Perm l:=by
  have h2:=hkeys.map (fun x=>(⟨x.toArray⟩:ByteArray));rw[hK]
  simpa [List.map_map,Function.comp_def] using h2
 obtain⟨A,c,hv,ho⟩:=Qbj (enc:=Qav) (l:=K) hrow (by rw[hK];simp) (by
  rw[hK,show Qav=fun x => [Value.string x] from rfl,Qfk,List.map_map];rfl)
 exact⟨v,rfl,A,c,K,hv,hKl,ho,hb⟩
end
end Go.Proofs.YtohkipkjleldpaaGreatDoor
namespace Go.Proofs.YtohkipkjleldpaaGreatDoor
open Go.Se Go.RowKit
open Go.ChangeMaps (setBlock)
section
variable {κ:Type} {enc:κ→Value} {P:Program} {w w':World} {r b:Nat}
theorem Qj0 {α:Type} {p:α→Bool}:∀ {E:List α} {j:Nat} {y:α},E[j]? = some y→p y=true→E.Pairwise (fun a b=>p a=true→p b=false)→E.eraseIdx j=E.filter (fun a => !p a)
 | [],j,y,h,_,_=>by simp at h
 | a :: E,0,y,h,hy,hp=>by
   obtain rfl:a=y:=by simpa using h
   rw[List.pairwise_cons] at hp;rw[List.eraseIdx_zero,List.tail_cons,List.filter_cons_of_neg (by simp[hy]),eq_comm,List.filter_eq_self];intro x hx;rw[hp.1 x hx hy];rfl
 | a :: E,j+1,y,h,hy,hp=>by
   have h:E[j]? = some y:=by simpa using h
   rw[List.pairwise_cons] at hp
   have ha:p a=false:=by
    cases hq:p a with
    | false=>rfl
    | true=>rw[hp.1 y (List.mem_of_getElem? h) hq] at hy;cases hy
   rw[List.eraseIdx_cons_succ,List.filter_cons_of_pos (by simp[ha]),Qj0 h hy hp.2]
theorem Qip {E:List (Ent κ)} (h:E.Pairwise (fun x y=>x.2.2<y.2.2)):∀ x∈E,∀ y∈E,x.2.2=y.2.2→x=y:=by
 induction E with
 | nil=>intro x hx;simp at hx
 | cons z E ih =>
   intro x hx y hy he;rw[List.pairwise_cons] at h;rcases List.mem_cons.1 hx with h1 | h1 <;> rcases List.mem_cons.1 hy with h2 | h2
   · rw[h1,h2]
   · subst h1;have:=h.1 _ h2;omega
   · subst h2;have:=h.1 _ h1;omega
   · exact ih h.2 x h1 y h2 he
def leftB (kp:κ×Value→Bool) (V:List (Ent κ)) (x:Ent κ):Bool := !decide (x.2.2∈V.map (·.2.2))||kp (x.1,x.2.1)
theorem Qny {kp:κ×Value→Bool} {V:List (Ent κ)} {z y:Ent κ} (e:¬ z.2.2=y.2.2):leftB kp (V ++ [y]) z=leftB kp V z:=by
 unfold leftB
 have hiff:z.2.2∈(V ++ [y]).map (·.2.2)↔z.2.2∈V.map (·.2.2):=by
  rw[List.map_append,List.mem_append]
  exact⟨fun h=>h.elim id fun h=>absurd (by simpa using h) e,.inl⟩
 rw[decide_eq_decide.2 hiff]
structure Qua (w:World) (r b:Nat) (enc:κ→Value) (kp:κ×Value→Bool) (E0 V Vi:List (Ent κ)):Prop where
 at_:∃ clock since c0,Q6t w b enc (E0.filter (leftB kp V)) clock∧w.heap[r]? = some (.mapIter (some b) since (Vi.map fun x:Ent κ=>x.2.2).toArray c0)∧(∀ x∈E0,x.2.2<since)∧since≤c0∧since≤clock
 rising:E0.Pairwise (fun x y=>x.2.2<y.2.2)
 keys:E0.Pairwise (fun x y=>x.1≠y.1)
 nodup:Vi.Nodup
 sub:∀ x∈Vi,x∈E0
def Qi1 (w:World) (r b:Nat) (enc:κ→Value) (kp:κ×Value→Bool) (L vs:List (κ×Value)):Prop:=∃ E0 V,strip E0=L∧strip V=vs∧Qua w r b enc kp E0 V V
def Qkg (w:World) (r b:Nat) (enc:κ→Value) (kp:κ×Value→Bool) (L vs:List (κ×Value)) (x:κ×Value):Prop:=∃ E0 V y,strip E0=L∧strip V=vs∧(y.1,y.2.1)=x∧y∈E0∧y∉V∧Qua w r b enc kp E0 V (V ++ [y])
variable {kp:κ×Value→Bool} {L vs:List (κ×Value)} {x:κ×Value}
theorem Qua.keep {E0 V Vi:List (Ent κ)} (h:Qua w r b enc kp E0 V Vi) (h1:w'.heap[b]? = w.heap[b]?) (h2:w'.heap[r]? = w.heap[r]?):Qua w' r b enc kp E0 V Vi:=by
 obtain⟨clock,since,c0,hE,hr,q1,q2,q3⟩:=h.at_
 exact⟨⟨clock,since,c0,⟨h1.trans hE.block,hE.rising,hE.below,hE.keys⟩,h2.trans hr,q1,q2,q3⟩,h.rising,h.keys,h.nodup,h.sub⟩
theorem Qua.lt {E0 V Vi:List (Ent κ)} (h:Qua w r b enc kp E0 V Vi):r<w.heap.size∧b<w.heap.size∧r≠b:=by
 obtain⟨clock,since,c0,hE,hr,_⟩:=h.at_;refine⟨lt_of_block hr,lt_of_block hE.block,?_⟩;rintro rfl;rw[hE.block] at hr
 simp at hr
theorem Qi1.keep (h:Qi1 w r b enc kp L vs) (h1:w'.heap[b]? = w.heap[b]?) (h2:w'.heap[r]? = w.heap[r]?):Qi1 w' r b enc kp L vs:=by
 obtain⟨E0,V,e1,e2,h⟩:=h
 exact⟨E0,V,e1,e2,h.keep h1 h2⟩
theorem Qkg.keep (h:Qkg w r b enc kp L vs x) (h1:w'.heap[b]? = w.heap[b]?) (h2:w'.heap[r]? = w.heap[r]?):Qkg w' r b enc kp L vs x:=by
 obtain⟨E0,V,y,e1,e2,e3,e4,e5,h⟩:=h
 exact⟨E0,V,y,e1,e2,e3,e4,e5,h.keep h1 h2⟩
theorem Qi1.lt (h:Qi1 w r b enc kp L vs):r<w.heap.size∧b<w.heap.size∧r≠b:=by
 obtain⟨E0,V,e1,e2,h⟩:=h
 exact h.lt
theorem Qkg.lt (h:Qkg w r b enc kp L vs x):r<w.heap.size∧b<w.heap.size∧r≠b:=by
 obtain⟨E0,V,y,e1,e2,e3,e4,e5,h⟩:=h
 exact h.lt
theorem Qkg.ext (h:Qkg w r b enc kp L vs x) (hx:Ext w w'):Qkg w' r b enc kp L vs x:=h.keep (hx.block _ h.lt.2.1) (hx.block _ h.lt.1)
theorem Qi1.ext (h:Qi1 w r b enc kp L vs) (hx:Ext w w'):Qi1 w' r b enc kp L vs:=h.keep (hx.block _ h.lt.2.1) (hx.block _ h.lt.1)
theorem Iter.del (h:Iter w r b enc L []):Qi1 w r b enc kp L []:=by
 obtain⟨E,c,V,si,c0,hE,rfl,hr,hold,hsc,hsk,hv,hnd,hsub⟩:=h
 obtain rfl:V = []:=by
  cases V with
  | nil=>rfl
  | cons y V=>simp[strip] at hv
 have hf:E.filter (leftB kp [])=E:=by
  rw[List.filter_eq_self];intro x _
  simp[leftB]
 exact⟨E,[],rfl,rfl,⟨c,si,c0,by rw[hf];exact hE,hr,hold,hsc,hsk⟩,hE.rising,hE.keys,hnd,hsub⟩
theorem Qkg.kept (h:Qkg w r b enc kp L vs x) (hk:kp x=true):Qi1 w r b enc kp L (vs ++ [x]):=by
 obtain⟨E0,V,y,e1,e2,rfl,e4,e5,h⟩:=h;refine⟨E0,V ++ [y],e1,by rw[← e2];simp[strip],?_⟩;obtain⟨clock,since,c0,hE,hr,q1,q2,q3⟩:=h.at_
 have hf:E0.filter (leftB kp (V ++ [y]))=E0.filter (leftB kp V):=by
  refine List.filter_congr fun z hz => ?_
  by_cases e:z.2.2=y.2.2
  · obtain rfl:=Qip h.rising z hz y e4 e
    unfold leftB;rw[hk];simp
  · exact Qny e
 exact⟨⟨clock,since,c0,by rw[hf];exact hE,hr,q1,q2,q3⟩,h.rising,h.keys,h.nodup,h.sub⟩
theorem Qzm [DecidableEq κ] {E:List (Ent κ)} {clock:Nat} {mt kt et ty:TypeId} (ht:P.underlying mt=some (.map kt et)) (K:Qnc P kt enc) (hE:Q6t w b enc E clock) {y:Ent κ} (hy:y∈E) :
 ∃ j,E[j]? = some y∧(Builtin.delete_ #[mt,kt] ty #[.map (some b),enc y.1]).run P w = .ok (.tuple #[]) (setBlock w b (.map ((E.eraseIdx j).map (mkE enc)).toArray clock)):=by
 have hf:=K.find w y.1 E
 cases hfe:Qeh E y.1 0 with
 | none=>exact absurd rfl ((Qgo hfe).1 y hy)
 | some p =>
   obtain⟨j,v0⟩:=p;obtain⟨n,s,hj,hn,_⟩:=Qgp hfe;obtain rfl:j=n:=by omega
   have hyy:(y.1,v0,s)=y:=Qg8 hE.keys (List.mem_of_getElem? hn) hy rfl;refine⟨j,by rw[hn,hyy],?_⟩
   have he:((E.map (mkE enc)).toArray.eraseIdxIfInBounds j)=((E.eraseIdx j).map (mkE enc)).toArray:=by
    unfold Array.eraseIdxIfInBounds
    have hlt:j<(E.map (mkE enc)).toArray.size:=by
     have:=(List.getElem?_eq_some_iff.1 hn).1
     simpa using this
    rw[dif_pos hlt]
    apply Array.ext'
    simp[Go.ChangeMaps.map_eraseIdx]
   rw[hfe] at hf;have h1:=Qcs (P:=P) hE.block;have h2:=Qfn (P:=P) (.map ((E.eraseIdx j).map (mkE enc)).toArray clock) hE.block;have h3:=K.check w y.1 (E.map (mkE enc)).toArray.isEmpty
   simp[Builtin.delete_,run_underlying ht,h1,K.check,hf,setBlock]
   rw[← Go.ChangeMaps.map_eraseIdx,h2]
   rfl
theorem Qvo [DecidableEq κ] {mt kt et ty:TypeId} (ht:P.underlying mt=some (.map kt et)) (K:Qnc P kt enc) (h:Qkg w r b enc kp L vs x) (hk:kp x=false) {R:Value→World→Prop}
 (hR:∀ w',Qi1 w' r b enc kp L (vs ++ [x])→Only w w' b→R (.tuple #[]) w'):Qhr P (Builtin.delete_ #[mt,kt] ty #[.map (some b),enc x.1]) w R:=by
 obtain⟨hr1,hb1,hrb⟩:=h.lt;obtain⟨E0,V,y,e1,e2,rfl,e4,e5,h⟩:=h;obtain⟨clock,since,c0,hE,hr,q1,q2,q3⟩:=h.at_
 have hyV:¬ y.2.2∈V.map (·.2.2):=fun hm=>by
  obtain⟨z,hz,he⟩:=List.mem_map.1 hm;have hz0:=h.sub z (by simp[hz]);have:=Qip h.rising z hz0 y e4 he
  exact e5 (this ▸ hz)
 have hyE:y∈E0.filter (leftB kp V):=List.mem_filter.2 ⟨e4,by unfold leftB;simp only[hyV,decide_false,Bool.not_false,Bool.true_or]⟩;obtain⟨j,hj,hrun⟩:=Qzm (ty:=ty) ht K hE hyE;have hon:=X8 w b (.map (((E0.filter (leftB kp V)).eraseIdx j).map (mkE enc)).toArray clock);refine⟨_,_,hrun,hR _ ⟨E0,V ++ [y],e1,by rw[← e2];simp[strip],⟨⟨clock,since,c0,?_,(hon.block r hrb).trans hr,q1,q2,q3⟩,h.rising,h.keys,h.nodup,h.sub⟩⟩ hon⟩
 have hf:(E0.filter (leftB kp V)).eraseIdx j=E0.filter (leftB kp (V ++ [y])):=by
  rw[Qj0 (p:=fun z:Ent κ=>decide (z.2.2=y.2.2)) hj (by simp) (hE.rising.imp fun {a c} hlt h1=>by
   simp only[decide_eq_true_eq] at h1;simp only[decide_eq_false_iff_not];omega),List.filter_filter]
  refine List.filter_congr fun z hz => ?_
  by_cases e:z.2.2=y.2.2
  · obtain rfl:=Qip h.rising z hz y e4 e
    unfold leftB;rw[hk];simp
  · rw[Qny e]
    simp[e]
 rw[hf];have hsub:(E0.filter (leftB kp (V ++ [y]))).Sublist (E0.filter (leftB kp V)):=by rw[← hf];exact List.eraseIdx_sublist _ _
 exact⟨Xv hE.block,hE.rising.sublist hsub,fun z hz=>hE.below z (hsub.subset hz),hE.keys.sublist hsub⟩
theorem Q4e {ty:TypeId} (hi:Qi1 w r b enc kp L vs) {R:Value→World→Prop}
 (hdone:MapAt w b enc (L.filter kp)→R (.tuple #[.bool false]) w)
 (hstep:∀ x w',x∈L→vs.length<L.length→Qkg w' r b enc kp L vs x→Only w w' r→(∀ w2,w2.heap[r]? = w'.heap[r]? → w2.heap[b]? = w'.heap[b]? → (Instr.entry (.pointer (some ⟨r,0,none⟩))).run P w2 = .ok (.tuple #[enc x.1,x.2]) w2)→R (.tuple #[.bool true,enc x.1,x.2]) w') :
 Qhr P (Instr.next (.pointer (some ⟨r,0,none⟩)) false ty) w R:=by
 obtain⟨_,_,hrb⟩:=hi.lt;obtain⟨E0,V,rfl,rfl,h⟩:=hi;obtain⟨c,si,c0,hE,hr,hold,hsc,hsk⟩:=h.at_;have hst:=Qip h.rising
 have hold':∀ x∈((E0.filter (leftB kp V)).map (mkE enc)).toArray.toList,x.born<si:=by
  intro x hx;simp only[List.mem_map] at hx;obtain⟨y,hy,rfl⟩:=hx
  exact hold y (List.mem_filter.1 hy).1
 rcases run_next_at (P:=P) w ty r b si c0 _ _ c hr hE.block hold' hsc with⟨h0,hrun⟩ | ⟨e,he,w1,hw1,hrun⟩
 · refine⟨_,_,hrun,hdone ?_⟩
   have hall:∀ x∈E0,x.2.2∈V.map (·.2.2):=by
    intro x hx;refine Classical.byContradiction fun hn => ?_
    have hxE:x∈E0.filter (leftB kp V):=List.mem_filter.2 ⟨hx,by unfold leftB;simp only[hn,decide_false,Bool.not_false,Bool.true_or]⟩;have hl:leftOf ((E0.filter (leftB kp V)).map (mkE enc)).toArray (V.map fun x:Ent κ=>x.2.2).toArray = #[]:=Array.eq_empty_of_size_eq_zero h0;unfold leftOf at hl;rw[Array.filter_eq_empty_iff] at hl;have:=hl (mkE enc x) (by rw[List.mem_toArray];exact List.mem_map.2 ⟨x,hxE,rfl⟩)
    simp[mkE] at this
    obtain⟨a,a',hv⟩:=this
    exact hn (List.mem_map.2 ⟨_,hv,rfl⟩)
   have hf:E0.filter (leftB kp V)=E0.filter fun x=>kp (x.1,x.2.1):=by
    refine List.filter_congr fun z hz => ?_
    unfold leftB;simp only[hall z hz,decide_true,Bool.not_true,Bool.false_or]
   rw[hf] at hE;refine⟨_,c,hE,?_⟩;unfold strip;rw[List.filter_map]
   rfl
 · unfold leftOf at he
   simp only[Array.mem_toList_iff,Array.mem_filter,List.mem_toArray,List.mem_map] at he;obtain⟨⟨x,hx,rfl⟩,hns⟩:=he;have hx0:=(List.mem_filter.1 hx).1
   have hxV:x∉V:=by
    intro hv
    simp[mkE] at hns
    exact hns x.1 x.2.1 hv
   have hr1:w1.heap=w.heap:=by rcases hw1 with rfl | rfl <;> rfl
   have hon:Only w (setBlock w1 r (.mapIter (some b) si ((V.map fun x:Ent κ=>x.2.2).toArray.push (mkE enc x).born) c)) r:=by
    rcases hw1 with rfl | rfl
    · exact X8 _ _ _
    · have h2:=X8 w.drew r (.mapIter (some b) si ((V.map fun x:Ent κ=>x.2.2).toArray.push (mkE enc x).born) c)
      exact⟨h2.os,h2.tape,h2.output,h2.size,h2.block⟩
   refine⟨_,_,hrun,hstep (x.1,x.2.1) _ (List.mem_map.2 ⟨x,hx0,rfl⟩) ?_ ⟨E0,V,x,rfl,rfl,rfl,hx0,hxV,⟨⟨c,si,c,⟨(hon.block b (Ne.symm hrb)).trans hE.block,hE.rising,hE.below,hE.keys⟩,?_,hold,hsk,hsk⟩,h.rising,h.keys,?_,?_⟩⟩ hon ?_⟩
   · have:(x :: V).length≤E0.length:=Qdh (List.nodup_cons.2 ⟨hxV,h.nodup⟩) (fun y hy=>by
      rcases List.mem_cons.1 hy with rfl | hy
      · exact hx0
      · exact h.sub y hy)
     simp[strip] at this ⊢
     omega
   · rw[Xv (o := .mapIter (some b) si (V.map fun x:Ent κ=>x.2.2).toArray c0) (by rw[hr1];exact hr)]
     simp[mkE]
   · rw[List.nodup_append]
     exact⟨h.nodup,by simp,fun a ha y hy=>by simp at hy;subst hy;rintro rfl;exact hxV ha⟩
   · intro y hy
     rcases List.mem_append.1 hy with hy | hy
     · exact h.sub y hy
     · simp at hy;subst hy;exact hx0
   · intro w2 h1 h2
     have hrr:w2.heap[r]? = some (.mapIter (some b) si ((V.map fun x:Ent κ=>x.2.2).toArray.push (mkE enc x).born) c):=by
      rw[h1,Xv (o := .mapIter (some b) si (V.map fun x:Ent κ=>x.2.2).toArray c0) (by rw[hr1];exact hr)]
     have hbb:w2.heap[b]? = some (.map ((E0.filter (leftB kp V)).map (mkE enc)).toArray c):=by rw[h2,(hon.block b (Ne.symm hrb))];exact hE.block
     refine run_entry_at w2 r b si _ _ c (mkE enc x) hrr hbb (by rw[List.toList_toArray];exact List.mem_map.2 ⟨x,hx,rfl⟩) ?_;simp only[List.map_map];rw[List.nodup_iff_pairwise_ne,List.pairwise_map]
     exact hE.rising.imp (fun h e=>by simp[mkE] at e;omega)
end
end Go.Proofs.YtohkipkjleldpaaGreatDoor
namespace Go.Proofs.YtohkipkjleldpaaGreatDoor
open Go.Se Go.RowKit Go.Sort
theorem Xc2:Qne Tryz.prog 437 167 itC 7 80:=⟨by kernel_rfl,⟨_,ty167_ok,rfl,rfl⟩,by167,by decide,by decide,fun _=>rfl,Qpn⟩
instance:Inhabited It:=⟨Qc6⟩
def Qzc (a b:It):Int:=orL [Qd0 b.born a.born,Qd7 a.name b.name]
theorem Qpy (a b:It):ltOf Qzc a b=Qlz (Xcn a) (Xcn b):=by rw[← Qpx];rfl
theorem Q2x:SWO (ltOf Qzc) where
 irrefl x:=by rw[Qpy];exact Qfj.irrefl _
 trans x y z h k:=by rw[Qpy] at *;exact Qfj.trans _ _ _ h k
 ntrans x y z h k:=by rw[Qpy] at *;exact Qfj.ntrans _ _ _ h k
theorem Qzd (a b:It) (w:World):Cal Tryz.prog 317 [.agg (itC a).toArray,.agg (itC b).toArray] w fun r w'=>r = .int .i64 (Qzc a b)∧Gr w w':=by
 refine Fi Tryz.func317 rfl _ rfl rfl (Hh ?_);intro b1 w1 hn1;conv=>whnf
 intro b2 w2 hn2;have h1:At w2 b1 _ (itC a):=hn1.At.ext hn2.ext;have h2:At w2 b2 _ (itC b):=hn2.At;have hx:=(Qbw hn1).trans ((Qbw hn2).trans (Gr.drew w2))
 conv=>whnf
 refine Dr .ext [0,1,2,3,5,6,7,8,4] [9,10,11,12] (Hh ?_);replace h1:At w2.drew b1 _ _:=h1;replace h2:At w2.drew b2 _ _:=h2;generalize w2.drew=w3 at h1 h2 hx ⊢;refine⟨_,h2.one rfl,Hh ?_⟩;refine⟨_,h1.one rfl,Hh ?_⟩;refine⟨_,h1.one rfl,Hh ?_⟩;refine⟨_,h2.one rfl,Hh ?_⟩;refine(Qdr _ _ _).mono ?_;rintro _ _ ⟨rfl,rfl⟩;refine⟨Ext.refl _,Hh ?_⟩;refine(Qcj _ _ _).mono ?_;rintro _ _ ⟨rfl,rfl⟩;conv=>whnf
 intro b6 w6 hn6;conv=>whnf
 refine(Qf4 [Qd0 b.born a.born,Qd7 a.name b.name] _ _ _ (Qbd (enc:=Qgr) Qax hn6) (by simp)).mono ?_;rintro _ _ ⟨rfl,rfl⟩;conv=>whnf
 exact⟨rfl,hx.trans (Qbw hn6)⟩
theorem Qwc (l:List It) (A:Option Addr) (c base:Nat) (w:World) (hown:Own itC 7 167 base w A c l) (hl:l.length<1000000) :
 Cal Tryz.prog 316 [.slice A l.length c,.func (.func 317) #[] #[]] w fun r w'=>r = .tuple #[]∧∃ F,F.Perm l∧Srt (ltOf Qzc) F∧Sl itC 7 w' A F∧∀ w0,Ext w0 w→w0.heap.size≤base→Ext w0 w' :=
 Qgd Tryz.sortItem (by decide) Tryz.isAgg167 Tryz.sizeOf167 (fun _=>rfl) Qpn Qzc Q2x ⟨_,Tryz.func316,rfl,rfl⟩ (enters_of Tryz.func317 (by kernel_rfl) rfl) l A c base w hown hl (fun x y w' _=>Qzd x y w') (cb := #[])
theorem Xcu {z:List Ev} {now:Int} {q:It→Bool} {F:List It} (hp:F.Perm ((thC z now).filter q)) (hs:Srt (ltOf Qzc) F):F.map (fun x:It=>x.name)=(Qx0 z now q).map (·.1):=by
 have h:F.map Xcn=Qx0 z now q:=Qqs (hp.map Xcn) (by
  unfold Srt;rw[List.pairwise_map];refine hs.imp fun {a b} h => ?_
  rw[← Qpy]
  exact h)
 rw[← h,List.map_map]
 rfl
theorem Xbm (z:List Ev) (now:Int):(thC z now).length=(Qb5 z now).length:=by unfold thC;rw[List.length_map]
theorem Q8o {z:List Ev} {now:Int} {q:It→Bool} {k:Nat} (h:k<(Qb5 z now).length) :
 (((Qb5 z now).take (k+1)).map fun n=>(X6 (Xa z) n now).1).filter q=(((Qb5 z now).take k).map fun n=>(X6 (Xa z) n now).1).filter q++if q (X6 (Xa z) (Qb5 z now)[k] now).1=true then [(X6 (Xa z) (Qb5 z now)[k] now).1] else []:=by
 rw[List.take_succ_eq_append_getElem h,List.map_append,List.filter_append]
 congr 1
 simp only[List.map_cons,List.map_nil]
 by_cases hq:q (X6 (Xa z) (Qb5 z now)[k] now).1=true
 · rw[if_pos hq,List.filter_cons_of_pos hq];rfl
 · rw[if_neg hq,List.filter_cons_of_neg hq];rfl
set_option maxHeartbeats 2000000 in
theorem Ql6 {w:World} {T:Nat→Prop} {p:Nat} {c:Cfg} {z:List Ev} {v:Value} (h:WQ w T p c z v) (hok:Quc c z) (now:Int) (fv:FuncId) (c0:Value) (cr:List Value) (q:It→Bool)
 (hq:∀ t∈thC z now,∀ w',Ext w w'→Cal Tryz.prog fv (.agg (itC t).toArray :: c0 :: cr) w' fun r w2=>r = .bool (q t)∧Ext w' w2) :
 Cal Tryz.prog 243 [.pointer (some ⟨p,0,none⟩),.int .i64 now,.func (.func fv) #[] (c0 :: cr).toArray] w fun r w'=>∃ A cp,r = .slice A ((Qx0 z now q).map (·.1)).length cp∧Own Qav 1 9 w.heap.size w' A cp ((Qx0 z now q).map (·.1))∧Ext w w':=by
 have hlen:=hok.len;have hnl:=Qsn z now
 have hcl:(Xa z).length<100000:=by
  have:=List.length_filter_le thB z;unfold Xa;omega
 have hrows:∀ name,(Qw (Xa z) name).length<1000000000000:=fun name=>h.rows
 refine Fi Tryz.func243 rfl _ rfl rfl (Hh ?_);refine(Qil h).mono ?_;rintro _ w1 ⟨pc,S,rfl,hcat,hx1⟩;refine Gg ?_;refine(Q0h w1 S pc _ hcat now hrows hcl).mono ?_;rintro _ w2 ⟨A,cp,K0,rfl,hs,hn0,hm0,hl0,hx2⟩;have hK0:=Q4j hn0 hm0;rw[hK0] at hs ⊢;clear hn0 hm0 hK0 hcat hl0 K0;have hx02:=hx1.trans hx2;have hend:(((Qb5 z now).map fun n=>(X6 (Xa z) n now).1).filter q)=(thC z now).filter q:=rfl;have hst:=fun k (hk:k<(Qb5 z now).length)=>Q8o (q:=q) hk
 have hlist:∀ n∈Qb5 z now,Qcz (Xa z) now n=true∧(X6 (Xa z) n now).1∈thC z now:=fun n hn=>⟨Qjg.1 hn,List.mem_map.2 ⟨n,hn,rfl⟩⟩
 generalize Qb5 z now=N at hs hnl hend hst hlist ⊢;refine Gg ?_
 refine Qh Qa (fun(x:Nat×Option Addr×Nat×List It) w'=>x.1≤N.length∧Ext w2 w'∧x.2.2.2=((N.take x.1).map fun n=>(X6 (Xa z) n now).1).filter q∧Own itC 7 167 w2.heap.size w' x.2.1 x.2.2.1 x.2.2.2)
  (fun | (k,B,d,F) => [(0,.pointer (some ⟨p,0,none⟩)),(1,.int .i64 now),(2,.func (.func fv) #[] (c0 :: cr).toArray),(7,.slice B F.length d),(18,.slice A N.length cp),(19,.int .i64 N.length),(20,.int .i64 (k:Nat))]) (fun x=>N.length-x.1) (0,none,0,[]) ⟨Nat.zero_le _,Ext.refl _,rfl,Own.nil⟩ Rr ?_
 rintro ⟨k,B,d,F⟩ wa ⟨hk,hxa,hF,hown⟩;simp only at hk hF hown
 have hFl:F.length≤k:=by
  rw[hF];refine Nat.le_trans (List.length_filter_le _ _) ?_;rw[List.length_map,List.length_take];omega
 refine Gg ?_;constructor
 · intro hlt
   have hlt:k<N.length:=by simpa using hlt
   obtain⟨ax,hAx,hcx⟩:=(hs.ext hxa).get hlt;have htk:=hst k hlt;rw[← hF] at htk;obtain⟨hli,hth⟩:=hlist N[k] (List.getElem_mem hlt);generalize N[k]=name at hcx htk hli hth
   have hi2:(X6 (Xa z) name now).2=true:=by
    unfold Qcz at hli;rw[Bool.and_eq_true] at hli
    exact hli.1
   refine Gg ?_;refine⟨ax,⟨hAx,by omega,by omega⟩,Gg ?_⟩;refine⟨.string name,Qv hcx,Gg ?_⟩;refine(Qil (h.ext (hx02.trans hxa))).mono ?_;rintro _ w3 ⟨pc3,S3,rfl,hcat3,hx3⟩;refine Gg ?_;have hat:=Qgm w3 S3 pc3 _ hcat3 name now (hrows name);rw[hi2] at hat;generalize (X6 (Xa z) name now).1=t at hat htk hth;refine hat.mono ?_;rintro _ w4 ⟨rfl,hx4⟩;clear hat hcat3;refine Gg ?_;intro b5 w5 hn5;refine Gg ?_;refine Qd Qa (e:=ty167) rfl hn5.At rfl rfl rfl (Qpn t) fun w6 h6 ho6 => ?_
   have h6:At w6 b5 167 (itC t):=h6;have hxa6:Ext wa w6:=(hx3.trans hx4).trans (ho6.ext hn5.ext (by rw[hn5.block];exact Nat.le_refl _));clear ho6 hn5 hx3 hx4;refine Gg ?_;refine⟨itC t,fun _=>⟨rfl,h6.all⟩,Gg ?_⟩;refine⟨Unit,fun _=>(.bool (q t)),fun _ w'=>Ext w6 w',(),fun hg=>((hq t hth w6 ((hx02.trans hxa).trans hxa6))).mono fun r w' h=>⟨(),h.1,h.2⟩,?_⟩;intro _ w7 h2
   have hx7:Ext w6 w7:=by
    rcases h2 with⟨_,h⟩ | ⟨_,h⟩
    · exact h
    · rw[h];exact Ext.refl _
   clear h2
   conv=>whnf
   replace h6:=h6.ext hx7;have hxa7:=hxa6.trans hx7;clear hxa6 hx7;generalize hqt:q t=qt at htk ⊢;refine Gg ?_;constructor
   · intro hq1
     have hq1:qt=true:=by simpa using hq1
     rw[if_pos hq1] at htk;refine Gg ?_;refine⟨itC t,⟨rfl,h6.all⟩,Gg ?_⟩;intro b8 w8 hn8;refine Gg ?_;refine Qs Xc2 (l:=F) (news := [t]) rfl ((hown.ext hxa7).ext hn8.ext) rfl (Xc2.new1 (x:=t) hn8) (by simp;omega) ((hxa.trans hxa7).trans hn8.ext).size fun A9 c9 w9 hown9 hg9 hA9 => ?_
     have hx9:=Qr ((hxa.trans hxa7).trans hn8.ext) hg9 (Xy ((hown.ext hxa7).ext hn8.ext));generalize F ++ [t]=F2 at hown9 htk ⊢;refine Gg ?_;refine⟨_,wrap_succ (by omega),Gg ?_⟩
     exact⟨(k+1,A9,c9,F2),by simp only;omega,⟨by simp only;omega,hx9,htk.symm,hown9⟩,Rr⟩
   · intro hq1
     have hq1:¬ qt=true:=by simpa using hq1
     rw[if_neg hq1,List.append_nil] at htk;refine Gg ?_;refine⟨_,wrap_succ (by omega),Gg ?_⟩
     exact⟨(k+1,B,d,F),by simp only;omega,⟨by simp only;omega,hxa.trans hxa7,htk.symm,hown.ext hxa7⟩,Rr⟩
 intro hge;have hge:N.length≤k:=by simpa using hge
 rw[List.take_of_length_le hge,hend] at hF;clear hst hlist hend hs;refine Gg ?_;refine(Qwc F B d w2.heap.size wa hown (by omega)).mono ?_;rintro _ w3 ⟨rfl,Q,hp,hsrt,hsQ,hx3⟩;rw[hF] at hp;have hQF:Q.length=F.length:=by rw[hF];exact hp.length_eq
 have hnew:=Xcu hp hsrt;have hQl:Q.length<1000000:=by omega
 have hx03:Ext w w3:=hx3 w (hx02.trans hxa) hx02.size
 dsimp only
 rw[← hnew,← hQF];clear hF hown hp hsrt hnew hx3 hxa hge hQF;refine Gg ?_
 refine Qh Qa (fun(x:Nat×Option Addr×Nat×List ByteArray) w'=>x.1≤Q.length∧Ext w3 w'∧x.2.2.2=(Q.take x.1).map (fun x:It=>x.name)∧Own Qav 1 9 w3.heap.size w' x.2.1 x.2.2.1 x.2.2.2)
  (fun | (k,B3,d3,K) => [(12,.slice B3 K.length d3),(45,.slice B Q.length d),(46,.int .i64 Q.length),(47,.int .i64 (k:Nat))]) (fun x=>Q.length-x.1) (0,none,0,[]) ⟨Nat.zero_le _,Ext.refl _,rfl,Own.nil⟩ Rr ?_
 rintro ⟨k,B3,d3,K⟩ wa ⟨hk,hxa,hK,hownK⟩;simp only at hk hK hownK;have hKl:K.length≤k:=by rw[hK,List.length_map,List.length_take];omega
 refine Gg ?_;constructor
 · intro hlt
   have hlt:k<Q.length:=by simpa using hlt
   obtain⟨ax,hAx,hcx⟩:=(hsQ.ext hxa).get hlt;subst hAx;have htk:(Q.take (k+1)).map (fun x:It=>x.name)=K ++ [((fun x:It=>x.name)) Q[k]]:=by rw[List.take_succ_eq_append_getElem hlt,List.map_append,hK];rfl
   generalize Q[k]=x at hcx htk;refine Gg ?_;refine⟨ax,Ix,Gg ?_⟩;refine⟨itC x,⟨rfl,hcx⟩,Gg ?_⟩;intro bb wb hnb;refine Gg ?_;refine Qd Qa (e:=ty167) rfl hnb.At rfl rfl rfl (Qpn x) fun wc hbc hoc => ?_
   have hbc:At wc bb 167 (itC x):=hbc;have hxc:Ext wa wc:=hoc.ext hnb.ext (by rw[hnb.block];exact Nat.le_refl _);clear hoc hnb;have hfx:nth (itC x) 0=some (.string (((fun x:It=>x.name)) x)):=rfl;generalize hfn:((fun x:It=>x.name)) x=tx at hfx htk;refine Gg ?_;refine⟨.string tx,hbc.one hfx,Gg ?_⟩;intro be we hne;refine Gg ?_;refine Qs Qb6 (l:=K) (news := [tx]) rfl ((hownK.ext hxc).ext hne.ext) rfl (Qb6.new1 (x:=tx) hne) (by simp;omega) ((hxa.trans hxc).trans hne.ext).size fun Af cf wf hownf hgf hAf => ?_
   have hxf:=Qr ((hxa.trans hxc).trans hne.ext) hgf (Xy ((hownK.ext hxc).ext hne.ext));generalize K ++ [tx]=K2 at hownf htk ⊢;refine Gg ?_;refine⟨_,wrap_succ (by omega),Gg ?_⟩
   exact⟨(k+1,Af,cf,K2),by simp only;omega,⟨by simp only;omega,hxf,htk.symm,hownf⟩,Rr⟩
 intro hge;have hge:Q.length≤k:=by simpa using hge
 rw[List.take_of_length_le hge] at hK;rw[← hK];refine Gg ?_
 exact⟨B3,d3,rfl,hownK.base hx03.size,hx03.trans hxa⟩
theorem Q9o:Tryz.prog.underlying 60=some (.slice 9):=by kernel_rfl
theorem Qun (x:List ByteArray) (A:Option Addr) (c:Nat) (w:World) (hs:SlT w A x) (hl:x.length<1000000) :
 Cal Tryz.prog 141 [.slice A x.length c] w fun r w'=>∃ A' c',r = .slice A' x.length c'∧Own Qav 1 9 w.heap.size w' A' c' x∧Ext w w':=by
 refine Fi Tryz.func141 rfl _ rfl rfl (Hh ?_);refine⟨_,Xu Q9o A _ _ _ _,Hh ?_⟩;constructor
 · intro h
   obtain rfl:A=none:=by simpa using h
   have hx:x = []:=by
    cases x with
    | nil=>rfl
    | cons e x=>obtain⟨a,ha,_⟩:=hs 0 e rfl;cases ha
   subst hx
   conv=>whnf
   exact⟨none,0,rfl,Own.nil,Ext.refl _⟩
 · intro h
   conv=>whnf
   intro b1 w1 hn1;conv=>whnf
   have o1:=Qb6.made (base:=w.heap.size) hn1 (Nat.le_refl _);refine Qs Qb6 (l := []) (news:=x) rfl o1 rfl (hs.ext hn1.ext) (by simp;omega) hn1.ext.size fun A2 c2 w2 hown2 hg2 hA2 => ?_
   have hx2:=Qr hn1.ext hg2 (Xy o1);rw[List.nil_append] at hown2 ⊢
   conv=>whnf
   exact⟨A2,c2,rfl,hown2,hx2⟩
theorem Qhl (l:List ByteArray) (A:Option Addr) (c:Nat) (w:World) (hs:SlT w A l) (hc:l.length≤c) (hl:l.length<1000000) (n:Int) (hn:0≤n∧n≤9223372036854775807) :
 Cal Tryz.prog 242 [.slice A l.length c,.int .i64 n] w fun r w'=>∃ A' c',r = .slice A' (l.take n.toNat).length c'∧Own Qav 1 9 w.heap.size w' A' c' (l.take n.toNat)∧Ext w w':=by
 obtain⟨T,hT⟩:∃ T,T=l.take n.toNat:=⟨_,rfl⟩;have hTl:min n (l.length:Int)=(T.length:Int):=by rw[hT,List.length_take];omega
 have hTl2:T.length≤l.length:=by rw[hT,List.length_take];omega
 have hsk:=Qjo (Qwb hs n.toNat) 0 c (by rw[← hT];omega);rw[List.drop_zero,← hT] at hsk;refine Fi Tryz.func242 rfl _ rfl rfl (Hh ?_);rw[hTl];refine⟨⟨by omega,by omega,by omega,by omega⟩,Hh ?_⟩;refine(Qun T _ _ w hsk (by omega)).mono ?_;rintro _ w2 ⟨A2,c2,rfl,hown2,hx2⟩
 conv=>whnf
 rw[← hT]
 exact⟨A2,c2,rfl,hown2,hx2⟩
theorem Q3a (b:Nat) (M:List ByteArray) (A:Option Addr) (c:Nat) (t:It) (w:World) (hb:At w b 60 [.slice A M.length c]) (hs:SlT w A M) (hl:M.length<1000000) :
 Cal Tryz.prog 244 [.agg (itC t).toArray,.pointer (some ⟨b,0,none⟩)] w fun r w'=>r = .bool (decide (t.maker∈M))∧Ext w w':=by
 refine Fi Tryz.func244 rfl _ rfl rfl (Hh ?_);intro b1 w1 hn1;conv=>whnf
 have h1:At w1 b1 167 (itC t):=hn1.At;refine⟨_,(hb.ext hn1.ext).one0,Hh ?_⟩;refine⟨.string t.maker,h1.one rfl,Hh ?_⟩;refine(Qm5 M A c t.maker w1 (hs.ext hn1.ext) hl).mono ?_;rintro _ w2 ⟨rfl,hw2⟩;subst hw2
 conv=>whnf
 exact⟨rfl,hn1.ext⟩
theorem Q3b (b3 b9:Nat) (now span:Int) (t:It) (w:World) (h3:At w b3 3 [.int .i64 now]) (h9:At w b9 3 [.int .i64 span]) (hnow:0≤now∧now≤1099511627776) (hb:0≤t.born∧t.born≤1099511627776) :
 Cal Tryz.prog 245 [.agg (itC t).toArray,.pointer (some ⟨b3,0,none⟩),.pointer (some ⟨b9,0,none⟩)] w fun r w'=>r = .bool (decide (now-t.born≤span))∧Ext w w':=by
 refine Fi Tryz.func245 rfl _ rfl rfl (Hh ?_);intro b1 w1 hn1;conv=>whnf
 have h1:At w1 b1 167 (itC t):=hn1.At;refine⟨_,(h3.ext hn1.ext).one0,Hh ?_⟩;refine⟨.int .i64 t.born,h1.one rfl,Hh ?_⟩;refine⟨now-t.born,wrap_eq rfl ⟨by omega,by omega⟩,Hh ?_⟩;refine⟨_,(h9.ext hn1.ext).one0,Hh ?_⟩
 exact⟨rfl,hn1.ext⟩
theorem Q4n {z:List Ev} (hz:z.length<1000) (now:Int) (q:It→Bool):((Qx0 z now q).map (·.1)).length<1000:=by
 have h1:=(Qp3 z now q).length_eq;have h2:=List.length_filter_le q (thC z now);have h3:=Qsn z now;have h4:=Xbm z now;rw[List.length_map] at h1 ⊢;rw[List.length_map] at h1;omega
theorem Qpk {w:World} {T:Nat→Prop} {p:Nat} {c:Cfg} {z:List Ev} {v:Value} (h:WQ w T p c z v) (hok:Quc c z) (person:ByteArray) (now limit:Int) (hl:0≤limit∧limit≤9223372036854775807) :
 Cal Tryz.prog 190 [.pointer (some ⟨p,0,none⟩),.string person,.int .i64 now,.int .i64 limit] w fun r w'=>Qlb c z person now limit 3 w r w':=by
 have hlen:=hok.len;have hrs:=Quq c.width z h.rise h.may;have hrl:=Xc4 c.width z;refine Fi Tryz.func190 rfl _ rfl rfl (Hh ?_);refine(Qfm h).mono ?_;rintro _ w1 ⟨pw,S,rfl,hcr,hx1⟩;conv=>whnf
 refine(Qvm w1 S pw _ _ hcr (fun r hr=>(hrs r hr).1) (by omega) person).mono ?_;rintro _ w2 ⟨A2,c2,rfl,hown2,hx2⟩
 have hin:∀ t:It,decide (t.maker∈Xb ((Qbc (X0 (Ql c.width z).rs).follows person (hist (evs (Ql c.width z).rs) person)).map (·.1)))=Xb6 z person t:=fun t=>by
  unfold Xb6;rw[Bool.eq_iff_iff,decide_eq_true_iff,Qgc,Xam,(Qdt c.width z).2,Qzu]
 have hMl:(Xb ((Qbc (X0 (Ql c.width z).rs).follows person (hist (evs (Ql c.width z).rs) person)).map (·.1))).length<1000000:=by
  rw[Qc4,List.length_map]
  have h1:∀ (fl:List (LK×Bool)) (hh:List Ev),(Qbc fl person hh).length≤hh.length:=fun fl=>by
   refine Qu (by simp[Qbc]) fun hh e ih => ?_
   rw[Qfe]
   split
   · have:=Qcp e.text true (Qbc fl person hh)
     simp;omega
   · simp;omega
  have h2:=h1 (X0 (Ql c.width z).rs).follows (hist (evs (Ql c.width z).rs) person);have h3:(hist (evs (Ql c.width z).rs) person).length≤(evs (Ql c.width z).rs).length:=List.length_filter_le _ _;have h4:(evs (Ql c.width z).rs).length=(Ql c.width z).rs.length:=List.length_map _;omega
 have hs2:=hown2.sl Xi;generalize Xb ((Qbc (X0 (Ql c.width z).rs).follows person (hist (evs (Ql c.width z).rs) person)).map (·.1))=M at hs2 hin hMl ⊢
 conv=>whnf
 intro b3 w3 hn3;conv=>whnf
 refine Qd Qa (e:=ty60) rfl hn3.At rfl rfl rfl (by simp[Qg,Value.oneCell']) fun w4 h4 ho4 => ?_
 have h4:At w4 b3 60 [.slice A2 M.length c2]:=h4;have hx24:Ext w2 w4:=ho4.ext hn3.ext (by rw[hn3.block];exact Nat.le_refl _);have hx4:=(hx1.trans hx2).trans hx24
 conv=>whnf
 refine(Ql6 (h.ext hx4) hok now 244 (.pointer (some ⟨b3,0,none⟩)) [] (Xb6 z person) fun t _ w' hx => ?_).mono ?_
 · rw[← hin t]
   exact Q3a b3 M A2 c2 t w' (h4.ext hx) ((hs2.ext hx24).ext hx) hMl
 rintro _ w5 ⟨A5,c5,rfl,hown5,hx5⟩;have hnl:=Q4n hlen now (Xb6 z person)
 conv=>whnf
 refine(Qhl _ A5 c5 w5 (hown5.sl Xi) hown5.le (by omega) limit hl).mono ?_;rintro _ w6 ⟨A6,c6,rfl,hown6,hx6⟩
 conv=>whnf
 have hF:(Qd3 c z person now 3).take limit.toNat=((Qx0 z now (Xb6 z person)).map (·.1)).take limit.toNat:=rfl;rw[hF]
 exact⟨A6,c6,rfl,hown6.base (hx4.trans hx5).size,(hx4.trans hx5).trans hx6⟩
theorem Qm8 {w:World} {T:Nat→Prop} {p:Nat} {c:Cfg} {z:List Ev} {v:Value} (h:WQ w T p c z v) (hok:Quc c z) (person:ByteArray) (now limit:Int) (hnow:0≤now∧now≤1099511627776) (hl:0≤limit∧limit≤9223372036854775807) :
 Cal Tryz.prog 191 [.pointer (some ⟨p,0,none⟩),.string person,.int .i64 now,.int .i64 limit] w fun r w'=>Qlb c z person now limit 4 w r w':=by
 have hlen:=hok.len;refine Fi Tryz.func191 rfl _ rfl rfl (Hh ?_);intro b1 w1 hn1;conv=>whnf
 have h1:At w1 b1 3 [.int .i64 now]:=hn1.At;refine(Qf7 (h.ext hn1.ext)).mono ?_;rintro _ w2 ⟨rfl,hx2⟩;conv=>whnf
 intro b3 w3 hn3;conv=>whnf
 refine Qd Qa (e:=ty3) rfl hn3.At rfl rfl rfl (by simp[Qg,Value.oneCell']) fun w4 h4 ho4 => ?_
 have h4:At w4 b3 3 [.int .i64 c.span]:=h4;have hx24:Ext w2 w4:=ho4.ext hn3.ext (by rw[hn3.block];exact Nat.le_refl _);have hx14:=hx2.trans hx24;have hx4:=hn1.ext.trans hx14;replace h1:=h1.ext hx14
 conv=>whnf
 refine⟨_,h1.one0,Hh ?_⟩;refine(Ql6 (h.ext hx4) hok now 245 (.pointer (some ⟨b1,0,none⟩)) [.pointer (some ⟨b3,0,none⟩)] (Xdn c now) fun t ht w' hx => ?_).mono ?_
 · obtain⟨n,_,rfl⟩:=List.mem_map.1 ht
   have hb:=(Q94 h.may n now).2.2.2.2
   exact Q3b b1 b3 now c.span _ w' (h1.ext hx) (h4.ext hx) hnow hb
 rintro _ w5 ⟨A5,c5,rfl,hown5,hx5⟩;have hnl:=Q4n hlen now (Xdn c now)
 conv=>whnf
 refine(Qhl _ A5 c5 w5 (hown5.sl Xi) hown5.le (by omega) limit hl).mono ?_;rintro _ w6 ⟨A6,c6,rfl,hown6,hx6⟩
 conv=>whnf
 have hF:(Qd3 c z person now 4).take limit.toNat=((Qx0 z now (Xdn c now)).map (·.1)).take limit.toNat:=rfl;rw[hF]
 exact⟨A6,c6,rfl,hown6.base (hx4.trans hx5).size,(hx4.trans hx5).trans hx6⟩
end Go.Proofs.YtohkipkjleldpaaGreatDoor
namespace Go.Proofs.YtohkipkjleldpaaGreatDoor
open Go.Se Go.RowKit Go.Sort Go.Shelf
def kpV (kp:Ct→Bool) (x:ByteArray×Value):Bool:=match x.2 with
 | .int _ n=>kp (x.1,n)
 | _=>false
theorem Qz6 (kp:Ct→Bool) (L:List Ct):(Xm vi L).filter (kpV kp)=Xm vi (L.filter kp):=by
 unfold Xm;rw[List.filter_map]
 rfl
set_option maxHeartbeats 1000000 in
theorem Q4h (w:World) (bm:Nat) (L:List Ct) (hm:MapAt w bm Value.string (Xm vi L)) (fv:FuncId) (c0:Value) (cr:List Value) (kp:Ct→Bool)
 (hf:∀ x∈L,∀ w',Mod (fun k=>k=bm) w w'→Cal Tryz.prog fv (.string x.1 :: .int .i64 x.2 :: c0 :: cr) w' fun r w2=>r = .bool (!kp x)∧Ext w' w2) :
 Cal Tryz.prog 247 [.map (some bm),.func (.func fv) #[] (c0 :: cr).toArray] w fun r w'=>r = .tuple #[]∧MapAt w' bm Value.string (Xm vi (L.filter kp))∧Mod (fun k=>k=bm) w w':=by
 have hbl:=hm.lt;have hLl:(Xm vi L).length=L.length:=by simp[Xm]
 refine Fi Tryz.func247 rfl _ rfl rfl (Hh ?_);refine map_range Q6j hm fun w1 hi1 hx1 => ?_
 generalize hr:w.heap.size=r at hi1 ⊢;refine Gg ?_
 refine Qh Qa (fun(vs:List (ByteArray×Value)) w'=>Mod (fun k=>k=bm) w w'∧Qi1 w' r bm Value.string (kpV kp) (Xm vi L) vs)
  (fun _ => [(0,.map (some bm)),(1,.func (.func fv) #[] (c0 :: cr).toArray),(7,.pointer (some ⟨r,0,none⟩))]) (fun vs=>L.length-vs.length) [] ⟨Mod.of_ext hx1,hi1.del⟩ Rr ?_
 rintro vs w2 ⟨hM2,hi2⟩;refine Gg ?_;refine Q4e hi2 (fun hp => ?_) (fun x w3 hin hlt hi3 ho3 hen => ?_)
 · refine Gg ?_
   constructor
   · intro hh;cases hh
   intro _;refine Gg ?_;rw[Qz6] at hp
   exact⟨rfl,hp,hM2⟩
 · have hM3:Mod (fun k=>k=bm) w w3:=Qp hM2 (Qi ho3 (.inr (by omega)))
   obtain⟨y,hy,rfl⟩:∃ y∈L,x=(y.1,vi y.2):=by
    unfold Xm at hin;obtain⟨y,hy,he⟩:=List.mem_map.1 hin
    exact⟨y,hy,he.symm⟩
   have hcl:=hf y hy w3 hM3;have hkv:kpV kp (y.1,vi y.2)=kp y:=rfl;generalize hky:kp y=ky at hcl hkv;rw[hLl] at hlt;refine Gg ?_;constructor
   · intro _
     refine Gg ?_;refine Qat (hen w3 rfl rfl) ?_;refine Gg ?_;refine hcl.mono ?_;rintro _ w4 ⟨rfl,hx4⟩;replace hi3:=hi3.ext hx4;have hM4:=hM3.trans (Mod.of_ext (S:=fun k=>k=bm) hx4);refine Gg ?_;constructor
     · intro hq
       have hq:ky=false:=by simpa using hq
       refine Gg ?_;refine Qvo Q6j (Qo Xc) hi3 (hkv.trans hq) fun w5 hi5 ho5 => ?_
       refine Gg ?_
       exact⟨vs ++ [(y.1,vi y.2)],by simp;omega,⟨hM4.trans (Qi ho5 rfl),hi5⟩,Rr⟩
     · intro hq
       have hq:ky=true:=by simpa using hq
       refine Gg ?_
       exact⟨vs ++ [(y.1,vi y.2)],by simp;omega,⟨hM4,hi3.kept (hkv.trans hq)⟩,Rr⟩
   · intro hh;cases hh
theorem Qq3 {w:World} {T:Nat→Prop} {p:Nat} {c:Cfg} {z:List Ev} {v:Value} (h:WQ w T p c z v) (b4 b5:Nat) (person item:ByteArray) (n:Int) (h4:At w b4 53 [.pointer (some ⟨p,0,none⟩)]) (h5:At w b5 9 [.string person]) :
 Cal Tryz.prog 248 [.string item,.int .i64 n,.pointer (some ⟨b4,0,none⟩),.pointer (some ⟨b5,0,none⟩)] w fun r w'=>r = .bool (!keepR (Ql c.width z).rs person (item,n))∧Ext w w':=by
 have hkb:(!keepR (Ql c.width z).rs person (item,n))=(decide (n≤0)||(Qzn (Ql c.width z).rs person item||Xck (Ql c.width z).rs person item)):=by unfold keepR;rw[Bool.not_not]
 rw[hkb];refine Fi Tryz.func248 rfl _ rfl rfl (Hh ?_);refine Dr .ext [0,1,2,3,5,6,4,7,8,9,10,12,13,11] [14,15,16] (Hh ?_);have hxd:Ext w w.drew:=(Ext.refl w).drew;replace h:=h.ext hxd;replace h4:=h4.ext hxd;replace h5:=h5.ext hxd;generalize w.drew=w0 at h h4 h5 hxd ⊢;generalize decide (n≤0)=q0;refine⟨_,fun _=>h4.one0,Hh ?_⟩;refine⟨_,fun _=>h5.one0,Hh ?_⟩;refine⟨Nat,fun pw => .pointer (some ⟨pw,0,none⟩),fun pw w'=>(∃ S,Qar w' S pw (Xr c.half) (Ql c.width z).rs)∧Ext w0 w',0,fun _=>(Qfm h).mono fun r w' hh => ?_,?_⟩
 · obtain⟨pw,S,h1,h2,h3⟩:=hh
   exact⟨pw,h1,⟨S,h2⟩,h3⟩
 intro pw w1 hh
 have hx1:Ext w0 w1:=by
  rcases hh with⟨_,hh⟩ | ⟨_,hh⟩
  · exact hh.2
  · rw[hh];exact Ext.refl _
 have hS1:q0=false→∃ S,Qar w1 S pw (Xr c.half) (Ql c.width z).rs:=fun hl=>by
  rcases hh with⟨_,hh⟩ | ⟨hg,_⟩
  · exact hh.1
  · exact(hg ⟨hl,trivial⟩).elim
 clear hh;replace h:=h.ext hx1;replace h4:=h4.ext hx1;replace h5:=h5.ext hx1;refine⟨hx1,?_⟩
 conv=>whnf
 refine⟨Unit,fun _ => .bool (Qzn (Ql c.width z).rs person item),fun _ w'=>Ext w1 w',(),fun hg => ?_,?_⟩
 · obtain⟨S,hc⟩:=hS1 hg
   refine(Q25 w1 S pw _ _ hc person item).mono ?_;rintro r w' ⟨hr,hx⟩
   exact⟨(),hr,hx⟩
 rintro ⟨⟩ w2 hh
 have hx2:Ext w1 w2:=by
  rcases hh with⟨_,hh⟩ | ⟨_,hh⟩
  · exact hh
  · rw[hh];exact Ext.refl _
 clear hh;replace h:=h.ext hx2;replace h4:=h4.ext hx2;replace h5:=h5.ext hx2;refine⟨hx2,?_⟩
 conv=>whnf
 generalize Qzn (Ql c.width z).rs person item=q1;refine⟨_,fun _=>h4.one0,Hh ?_⟩;refine⟨_,fun _=>h5.one0,Hh ?_⟩;refine⟨Nat,fun pw => .pointer (some ⟨pw,0,none⟩),fun pw w'=>(∃ S,Qar w' S pw (Xr c.half) (Ql c.width z).rs)∧Ext w2 w',0,fun _=>(Qfm h).mono fun r w' hh => ?_,?_⟩
 · obtain⟨pw,S,h1,h2,h3⟩:=hh
   exact⟨pw,h1,⟨S,h2⟩,h3⟩
 intro pw3 w3 hh
 have hx3:Ext w2 w3:=by
  rcases hh with⟨_,hh⟩ | ⟨_,hh⟩
  · exact hh.2
  · rw[hh];exact Ext.refl _
 have hS3:(q0||q1)=false→∃ S,Qar w3 S pw3 (Xr c.half) (Ql c.width z).rs:=fun hl=>by
  rcases hh with⟨_,hh⟩ | ⟨hg,_⟩
  · exact hh.1
  · exact(hg ⟨hl,trivial⟩).elim
 clear hh;replace h:=h.ext hx3;replace h4:=h4.ext hx3;replace h5:=h5.ext hx3;refine⟨hx3,?_⟩
 conv=>whnf
 refine⟨Unit,fun _ => .bool (Xck (Ql c.width z).rs person item),fun _ w'=>Ext w3 w',(),fun hg => ?_,?_⟩
 · obtain⟨S,hc⟩:=hS3 hg
   refine(Qu7 w3 S pw3 _ _ hc person item).mono ?_;rintro r w' ⟨hr,hx⟩
   exact⟨(),hr,hx⟩
 rintro ⟨⟩ w4 hh
 have hx4:Ext w3 w4:=by
  rcases hh with⟨_,hh⟩ | ⟨_,hh⟩
  · exact hh
  · rw[hh];exact Ext.refl _
 clear hh;refine⟨?_,((hxd.trans hx1).trans (hx2.trans hx3)).trans hx4⟩;rw[Bool.or_assoc]
def Q2v (L:List Ct) (a b:ByteArray):Int:=orL [Qd0 ((Qe L b).getD 0) ((Qe L a).getD 0),Qd7 a b]
theorem Qpw (L:List Ct) (a b:ByteArray):ltOf (Q2v L) a b=Qlz (a,(Qe L a).getD 0) (b,(Qe L b).getD 0):=by rw[← Qpx];rfl
theorem Q2w (L:List Ct):SWO (ltOf (Q2v L)) where
 irrefl x:=by rw[Qpw];exact Qfj.irrefl _
 trans x y z h k:=by rw[Qpw] at *;exact Qfj.trans _ _ _ h k
 ntrans x y z h k:=by rw[Qpw] at *;exact Qfj.ntrans _ _ _ h k
theorem Qyv (bl bm:Nat) (L:List Ct) (a b:ByteArray) (w:World) (hb:At w bl 374 [.map (some bm)]) (hm:MapAt w bm Value.string (Xm vi L)) :
 Cal Tryz.prog 250 [.string a,.string b,.pointer (some ⟨bl,0,none⟩)] w fun r w'=>r = .int .i64 (Q2v L a b)∧Gr w w':=by
 have hlk:∀ x:ByteArray,RdS Tryz.prog .same w (Instr.lookup 374 (.map (some bm)) (.string x) false) (.int .i64 ((Qe L x).getD 0)):=fun x=>by
  have hlk:=X7 Q6j (Qo Xc) (e:=ty2) ty2_ok (cl := .same) Qm hm x;rw[show ty2.zero=vi 0 from rfl,Xq] at hlk
  exact hlk
 refine Fi Tryz.func250 rfl _ rfl rfl (Hh ?_);refine⟨_,hb.one0,Hh ?_⟩;refine⟨_,hlk b,Hh ?_⟩;refine⟨_,hb.one0,Hh ?_⟩;refine⟨_,hlk a,Hh ?_⟩;refine(Qi6 _ _ _).mono ?_;rintro _ w7 ⟨rfl,hw7⟩;subst hw7
 conv=>whnf
 refine(Qcj _ _ _).mono ?_;rintro _ w8 ⟨rfl,hw8⟩;subst hw8
 conv=>whnf
 intro b9 w9 hn9;conv=>whnf
 refine(Qf4 [Qd0 ((Qe L b).getD 0) ((Qe L a).getD 0),Qd7 a b] _ _ _ (Qbd (enc:=Qgr) Qax hn9) (by simp)).mono ?_;rintro _ w10 ⟨rfl,hw10⟩;subst hw10
 conv=>whnf
 exact⟨rfl,Qbw hn9⟩
theorem Xdr {L:List Ct} (hn:L.Pairwise fun x y=>x.1≠y.1) {F:List ByteArray} (hp:F.Perm (L.map (·.1))) (hs:Srt (ltOf (Q2v L)) F):F=(Qfo L).map (·.1):=by
 have h:F.map (fun k=>((k,(Qe L k).getD 0):Ct))=Qfo L:=Qqs (by
  have h1:=hp.map (fun k=>((k,(Qe L k).getD 0):Ct));rw[List.map_map] at h1;refine h1.trans ?_
  have:L.map ((fun k=>((k,(Qe L k).getD 0):Ct)) ∘ fun x=>x.1)=L:=by
   conv=>rhs;rw[← List.map_id L]
   refine List.map_congr_left fun x hx => ?_
   have:=Qcd hn (k:=x.1) (v:=x.2) hx;simp only[Function.comp,this,Option.getD_some,id]
  rw[this]) (by
  unfold Srt;rw[List.pairwise_map];refine hs.imp fun {a b} h => ?_
  rw[← Qpw]
  exact h)
 have h2:=congrArg (List.map (·.1)) h;rw[List.map_map] at h2;rw[← h2]
 conv=>lhs;rw[← List.map_id F]
 rfl
theorem Qvg (mb:Option Nat) (w:World):Cal Tryz.prog 249 [.map mb] w fun r w'=>r = .func (.func 318) #[] #[.pointer (some ⟨w.heap.size,0,none⟩)]∧w'.cell? ⟨w.heap.size,0,none⟩=some (.map mb)∧Ext w w' :=
 Qex Tryz.keys249 ⟨_,Tryz.func249,rfl,rfl⟩ mb w
theorem Qm3 {w:World} {Bm b:Nat} {L:List (ByteArray×Value)} (hc:w.cell? ⟨Bm,0,none⟩=some (.map (some b))) (hm:MapAt w b Value.string L) (hk:∀ x∈L,x.1.size≤1000000) (hl:L.length≤1000000000) :
 Cal Tryz.prog 66 [.func (.func 318) #[] #[.pointer (some ⟨Bm,0,none⟩)]] w fun r w'=>∃ A c K,r = .slice A K.length c∧K.Perm (L.map (·.1))∧Own Qav 1 9 w.heap.size w' A c K∧Ext w w':=by
 obtain⟨N,Q,h1,h2,h3⟩:=Qf0 { Tryz.keys249 with } hc hm hk hl
 exact Qo7 { Tryz.sorted35 with } (enters_of Tryz.func318 (by kernel_rfl) rfl) ⟨_,Tryz.func66,rfl,rfl⟩ h2 h1 h3
theorem Q0b (half now:Int) (l:List Ev) (k:Nat) (h:k<l.length):Qen half now (l.take (k+1))=Qj2 half now (Qen half now (l.take k)) l[k]:=by
 rw[List.take_succ_eq_append_getElem h,Qgs]
theorem Q33 (half now:Int):∀ l:List Ev,(Qen half now l).length≤l.length:=by
 refine Qu (by simp[Qen]) fun l e ih => ?_
 rw[Qgs,List.length_append,List.length_cons,List.length_nil];unfold Qj2;have:=Qcp e.item ((Qe (Qen half now l) e.item).getD 0+Q9m half now e) (Qen half now l);omega
theorem Q24 {z:List Ev} (hm:∀ e∈z,Xn e=true) (person:ByteArray):∀ e∈Qjy z person,Xn e=true:=fun e he=>by
 have h1:=(List.mem_filter.1 he).1;unfold Qkh hist Qb4 at h1
 exact hm e (List.mem_filter.1 (List.mem_filter.1 h1).1).1
theorem Q7g {z:List Ev} (hm:∀ e∈z,Xn e=true) {person:ByteArray} {e:Ev} (he:e∈Qjy z person):e.item.size≤1000000:=by
 have h1:=(List.mem_filter.1 he);have h2:=Qdz (Q24 hm person e he) (by simpa using h1.2);have:=Qdv h2.2;omega
set_option maxHeartbeats 4000000 in
theorem Qyw {w:World} {T:Nat→Prop} {p:Nat} {c:Cfg} {z:List Ev} {v:Value} (h:WQ w T p c z v) (hok:Quc c z) (person:ByteArray) (now limit:Int) (hnow:0≤now∧now≤1099511627776) (hl:0≤limit∧limit≤9223372036854775807) :
 Cal Tryz.prog 192 [.pointer (some ⟨p,0,none⟩),.string person,.int .i64 now,.int .i64 limit] w fun r w'=>Qlb c z person now limit 5 w r w':=by
 have hlen:=hok.len;have hm:=h.may;have hTl:=h.lt
 have hdl:(Qjy z person).length<1000:=by
  have h1:(Qjy z person).length≤(Qkh z person).length:=List.length_filter_le _ _;have h2:(Qkh z person).length≤z.length:=Qxi z person;omega
 have hdm:=Q24 hm person;have hdi:=fun e (he:e∈Qjy z person)=>Q7g hm he
 have hF:(Qd3 c z person now 5).take limit.toNat=((Qfo ((Qen c.half now (Qjy z person)).filter (keepR (Ql c.width z).rs person))).map (·.1)).take limit.toNat:=rfl;unfold Qlb;rw[hF];clear hF;refine Fi Tryz.func192 rfl _ rfl rfl (Hh ?_);intro b1 w1 hn1;have h1:At w1 b1 53 [.pointer (some ⟨p,0,none⟩)]:=hn1.At;have e1:=hn1.block
 conv=>whnf
 intro b2 w2 hn2;have h2:At w2 b2 9 [.string person]:=hn2.At;have e2:=hn2.block;replace h1:=h1.ext hn2.ext
 conv=>whnf
 intro b3 w3 hn3;have hm3:MapAt w3 b3 Value.string (Xm vi ([]:List Ct)):=MapAt.new hn3;have e3:=hn3.block;replace h1:=h1.ext hn3.ext;replace h2:=h2.ext hn3.ext
 conv=>whnf
 intro b4 w4 hn4;have e4:=hn4.block
 conv=>whnf
 refine Qd Qa (e:=ty374) rfl hn4.At rfl rfl rfl (by simp[Qg,Value.oneCell']) fun w5 h5 ho5 => ?_
 have h5:At w5 b4 374 [.map (some b3)]:=h5;have hx35:Ext w3 w5:=ho5.ext hn4.ext (by rw[hn4.block];exact Nat.le_refl _);have hx05:Ext w w5:=((hn1.ext.trans hn2.ext).trans hn3.ext).trans hx35;have s1:=hn1.size;have s2:=hn2.size;have s3:=hn3.size;have s4:=hn4.size;have s0:=hn1.ext.size;have s5:=hx35.size;have z1:=hn1.ext.size;have z2:=hn2.ext.size;have z3:=hn3.ext.size;replace h1:=h1.ext hx35;replace h2:=h2.ext hx35;replace hm3:=hm3.ext hx35;clear hn1 hn2 hn3 hn4 ho5;have h41:b4≠b3:=by omega
 have h13:b1≠b3:=by omega
 have h23:b2≠b3:=by omega
 have l4:=h5.lt
 conv=>whnf
 refine⟨_,h1.one0,Hh ?_⟩;refine⟨_,h2.one0,Hh ?_⟩;refine(Qno (h.ext hx05) person).mono ?_;rintro _ w6 ⟨A6,c6,rfl,hown6,hx6⟩;have hs6:=hown6.sl Xz;have hA6:∀ a,A6=some a→a.block≠b3:=fun a ha=>by have:=(hown6.block ha).1;omega
 replace h1:=h1.ext hx6;replace h2:=h2.ext hx6;replace h5:=h5.ext hx6;replace hm3:=hm3.ext hx6;have hx06:=hx05.trans hx6;have hst:=fun k hk=>Q0b c.half now (Qjy z person) k hk
 have hbd:=fun l (hl:∀ e∈l,Xn e=true) x=>Qlw c.half now x l hl
 have hln:=Q33 c.half now (Qjy z person);have hky:=Qjc c.half now (Qjy z person)
 have hki:∀ x∈Qen c.half now (Qjy z person),x.1.size≤1000000:=fun x hx=>by
  obtain⟨e,he,hi⟩:=List.mem_map.1 (Qsg hx).1;rw[← hi]
  exact hdi e he
 have hml:∀ k,∀ x,(Qe (Qen c.half now ((Qjy z person).take k)) x).getD 0≤1000*5242880∧0≤(Qe (Qen c.half now ((Qjy z person).take k)) x).getD 0:=fun k x=>by
  rw[Qnz];have hb:=Qlw c.half now x ((Qjy z person).take k) fun e he=>hdm e (List.mem_of_mem_take he)
  have hkl:((Qjy z person).take k).length≤1000:=by rw[List.length_take];omega
  split
  · simp only[Option.getD_some]
    omega
  · simp
 have hm0:Qen c.half now ((Qjy z person).take 0) = []:=rfl;clear hdi hbd;generalize hQ:Qjy z person=Q at hs6 hdl hdm hst hln hky hki hml hm0 ⊢
 conv=>whnf
 refine Qh Qa (fun(q:Nat×List Ct) w'=>q.1≤Q.length∧Mod (fun k=>k=b3) w6 w'∧q.2=Qen c.half now (Q.take q.1)∧MapAt w' b3 Value.string (Xm vi q.2))
  (fun | (k,_) => [(2,.int .i64 now),(3,.int .i64 limit),(4,.pointer (some ⟨b1,0,none⟩)),(5,.pointer (some ⟨b2,0,none⟩)),(9,.pointer (some ⟨b4,0,none⟩)),(16,.slice A6 Q.length c6),(17,.int .i64 Q.length),(18,.int .i64 (k:Nat))]) (fun q=>Q.length-q.1) (0,[]) ⟨Nat.zero_le _,Mod.refl _ _,hm0.symm,hm3⟩ Rr ?_
 clear hm3;have s6:=hx6.size;have hlow:∀ {w':World},Mod (fun k=>k=b3) w6 w'→∀ i,i<w6.heap.size→i≠b3→w'.heap[i]? = w6.heap[i]? := fun hM i hi hne=>hM.block i hi hne
 have hWw:∀ {w':World},Mod (fun k=>k=b3) w6 w'→WQ w' T p c z v:=fun hM=>h.keep fun k hk=>by
  have:=hTl k hk
  exact(hM.block k (by omega) (by omega)).trans (hx06.block k this)
 rintro ⟨k,m⟩ wa ⟨hk,hMa,hmm,hmap⟩;simp only at hk hmm hmap
 conv=>whnf
 constructor
 · intro hlt
   have hlt:k<Q.length:=by simpa using hlt
   obtain⟨ax,hAx,hcx⟩:=(Qkk.stay hs6 fun a ha hlt2=>hMa.block _ hlt2 (hA6 a ha)).get hlt;have htk:=hst k hlt;rw[← hmm] at htk;have hme:=hdm Q[k] (List.getElem_mem hlt);have hmb:=hml k Q[k].item;rw[← hmm] at hmb;generalize Q[k]=e at hcx htk hme hmb;have hat:=Qsl hme;have htn:=Qon (half:=c.half) (now:=now) hme;refine Gg ?_;refine⟨ax,⟨hAx,by omega,by omega⟩,Gg ?_⟩;refine⟨evC e,⟨rfl,hcx⟩,Gg ?_⟩;intro b7 w7 hn7;refine Gg ?_;refine Qd Qa (e:=ty38) rfl hn7.At rfl rfl rfl (Qbo e) fun w8 h8 ho8 => ?_
   have h8:At w8 b7 38 (evC e):=h8;have hxa8:Ext wa w8:=ho8.ext hn7.ext (by rw[hn7.block];exact Nat.le_refl _);clear ho8 hn7;refine Gg ?_;refine Dr .ext [0,1,2,3,4,6,7,8,9,10,5,11,12,13,14,15] [16] (Hh ?_);have hxd:Ext w8 w8.drew:=(Ext.refl w8).drew;replace h8:=h8.ext hxd;have hxa9:=hxa8.trans hxd;generalize w8.drew=w9 at h8 hxa9 ⊢;clear hxd hxa8;have hM9:=hMa.trans (Mod.of_ext (S:=fun k=>k=b3) hxa9);have h19:At w9 b1 53 [.pointer (some ⟨p,0,none⟩)]:=(hM9.block b1 h1.lt h13).trans h1;have h59:At w9 b4 374 [.map (some b3)]:=(hM9.block b4 h5.lt h41).trans h5;have hmap9:=hmap.ext hxa9;refine⟨_,h59.one0,Gg ?_⟩;refine⟨.string e.item,h8.one rfl,Gg ?_⟩;have hlk:=X7 Q6j (Qo Xc) (e:=ty2) ty2_ok (cl := .ext) (Qid hmap9.lt) hmap9 e.item;rw[show ty2.zero=vi 0 from rfl,Xq] at hlk;refine⟨_,hlk,Gg ?_⟩;refine⟨evC e,⟨rfl,h8.all⟩,Gg ?_⟩;refine⟨.int .i64 e.at_,h8.one rfl,Gg ?_⟩;refine⟨now-e.at_,wrap_eq rfl ⟨by omega,by omega⟩,Gg ?_⟩;refine⟨_,h19.one0,Gg ?_⟩;refine(Qe8 e w9).mono ?_;rintro _ w10 ⟨rfl,hx10⟩;refine⟨hx10,Gg ?_⟩;have hM10:=hM9.trans (Mod.of_ext (S:=fun k=>k=b3) hx10);refine(Qf7 (hWw hM10)).mono ?_;rintro _ w11 ⟨rfl,hx11⟩;refine⟨hx11,Gg ?_⟩;refine(Qmv (now-e.at_) c.half ⟨by omega,by omega⟩ w11).mono ?_;rintro _ w12 ⟨rfl,hw12⟩;subst hw12;refine⟨Ext.refl _,Gg ?_⟩;have htn':Q9m c.half now e=Qy e*Qc9 (now-e.at_) c.half:=rfl;rw[htn'] at htn;refine⟨_,wrap_eq rfl ⟨by omega,by omega⟩,Gg ?_⟩;refine⟨_,wrap_eq rfl ⟨by omega,by omega⟩,Gg ?_⟩;have hx912:=hx10.trans hx11;refine Qq Q6j (Qo Xc) (hmap9.ext hx912) e.item _ fun w13 hm13 ho13 => ?_
   have hm13:MapAt w13 b3 Value.string (Xm vi (Qj2 c.half now m e)):=by
    have:=hm13;unfold Qj2;rw[htn',← Q9]
    exact this
   have hM13:Mod (fun k=>k=b3) w6 w13:=(hM10.trans (Mod.of_ext (S:=fun k=>k=b3) hx11)).trans (Qi ho13 rfl);refine Gg ?_;refine⟨_,wrap_succ (by omega),Gg ?_⟩
   exact⟨(k+1,Qj2 c.half now m e),by simp only;omega,⟨by simp only;omega,hM13,htk.symm,hm13⟩,Rr⟩
 intro hge;have hge:Q.length≤k:=by simpa using hge
 rw[List.take_of_length_le hge] at hmm;rw[← hmm] at hln hky hki ⊢;clear hst hml hmm hge;have h1a:At wa b1 53 [.pointer (some ⟨p,0,none⟩)]:=(hMa.block b1 h1.lt h13).trans h1;have h2a:At wa b2 9 [.string person]:=(hMa.block b2 h2.lt h23).trans h2;have h5a:At wa b4 374 [.map (some b3)]:=(hMa.block b4 h5.lt h41).trans h5;have hWa:=hWw hMa;have sa:=hMa.size
 conv=>whnf
 refine⟨_,h5a.one0,Hh ?_⟩;refine(Q4h wa b3 m hmap 248 (.pointer (some ⟨b1,0,none⟩)) [.pointer (some ⟨b2,0,none⟩)] (keepR (Ql c.width z).rs person) fun x _ w' hM => ?_).mono ?_
 · exact Qq3 (hWa.keep fun k hk=>by have:=hTl k hk;exact hM.block k (by omega) (by omega)) b1 b2 person x.1 x.2 ((hM.block b1 h1a.lt h13).trans h1a) ((hM.block b2 h2a.lt h23).trans h2a)
 rintro _ wb ⟨rfl,hmapb,hMb⟩;have h5b:At wb b4 374 [.map (some b3)]:=(hMb.block b4 h5a.lt h41).trans h5a;have hMfin:=hMa.trans hMb;have hky2:=hky.sublist (List.filter_sublist (p:=keepR (Ql c.width z).rs person))
 have hki2:∀ x∈Xm vi (m.filter (keepR (Ql c.width z).rs person)),x.1.size≤1000000:=fun x hx=>by
  unfold Xm at hx;obtain⟨y,hy,rfl⟩:=List.mem_map.1 hx
  exact hki y (List.mem_filter.1 hy).1
 have hfl:=List.length_filter_le (keepR (Ql c.width z).rs person) m;generalize m.filter (keepR (Ql c.width z).rs person)=L at hmapb hky2 hki2 hfl ⊢;have hvl:(Xm vi L).length=L.length:=by simp[Xm]
 have hvk:(Xm vi L).map (·.1)=L.map (·.1):=by unfold Xm;rw[List.map_map];rfl
 conv=>whnf
 refine⟨_,h5b.one0,Hh ?_⟩;refine(Qvg (some b3) wb).mono ?_;rintro _ wc ⟨rfl,hcc,hxc⟩
 conv=>whnf
 refine(Qm3 hcc (hmapb.ext hxc) hki2 (by omega)).mono ?_;rintro _ wd ⟨A7,c7,K,rfl,hKp,hown7,hxd⟩;rw[hvk] at hKp;have hKl:K.length<1000:=by have:=hKp.length_eq;rw[List.length_map] at this;omega
 have hxbd:=hxc.trans hxd;have h5d:=h5b.ext hxbd;have hmapd:=hmapb.ext hxbd;have sb:=hMb.size;have sc:=hxc.size;have hA7:∀ a,A7=some a→wc.heap.size≤a.block:=fun a ha=>(hown7.block ha).1
 conv=>whnf
 refine(Q5w Tryz.sortTxt { Tryz.sortTxt with } (Q2v L) (Q2w L) ⟨_,Tryz.func138,rfl,rfl⟩ (enters_of Tryz.func250 (by kernel_rfl) rfl) K A7 c7 wc.heap.size wd hown7 (by omega) (cb := #[.pointer (some ⟨b4,0,none⟩)]) fun x y w' hkw => ?_).mono ?_
 · exact Qyv b4 b3 L x y w' ((hkw b4 (fun a ha e=>by have:=hA7 a ha;have:=h5b.lt;omega) h5d.lt).trans h5d) (hmapd.keep (hkw b3 (fun a ha e=>by have:=hA7 a ha;have:=hmapb.lt;omega) hmapd.lt))
 rintro _ we ⟨rfl,F,hFp,hFs,hFsl,hxe⟩;have hFe:=Xdr hky2 (hFp.trans hKp) hFs;have hFl:F.length=K.length:=hFp.length_eq;have hle:=hown7.le;rw[← hFl] at hle
 conv=>whnf
 rw[← hFl,← hFe];refine(Qhl F A7 c7 we hFsl hle (by omega) limit hl).mono ?_;rintro _ wf ⟨A8,c8,rfl,hown8,hxf⟩
 conv=>whnf
 have hx0b:Ext w wb:=Qpg hx06 (fun k hk=>by omega) hMfin;have hx0f:Ext w wf:=hx0b.trans ((hxe wb hxbd sc).trans hxf)
 exact⟨A8,c8,rfl,hown8.base (hx0b.trans (hxe wb hxbd sc)).size,hx0f⟩
end Go.Proofs.YtohkipkjleldpaaGreatDoor
