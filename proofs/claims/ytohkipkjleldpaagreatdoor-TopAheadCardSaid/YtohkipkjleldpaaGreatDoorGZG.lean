/- Several texts in one: Ta1, Ta2, Ta3, RwG. -/
import Derived.Test.YtohkipkjleldpaaGreatDoorGX
import Derived.Test.YtohkipkjleldpaaGreatDoorGV
import Derived.Test.YtohkipkjleldpaaGreatDoorGC
set_option linter.unusedVariables false
set_option linter.unusedSimpArgs false
namespace Go.Proofs.YtohkipkjleldpaaGreatDoor
open Go.Se Go.RowKit
theorem Q45 {a b:List Ev} (ha:Rise a) (hb:Rise b) (h:∀ x,x∈a↔x∈b):a=b:=by
 unfold Rise at ha hb
 induction a generalizing b with
 | nil =>
   cases b with
   | nil=>rfl
   | cons y b=>exact absurd ((h y).2 (by simp)) (by simp)
 | cons x a ih =>
   cases b with
   | nil=>exact absurd ((h x).1 (by simp)) (by simp)
   | cons y b =>
     obtain⟨a1,a2⟩:=List.pairwise_cons.1 ha;obtain⟨b1,b2⟩:=List.pairwise_cons.1 hb
     have hxy:x=y:=by
      rcases List.mem_cons.1 ((h x).1 (by simp)) with e | e
      · exact e
      · rcases List.mem_cons.1 ((h y).2 (by simp)) with e' | e'
        · exact e'.symm
        · have h1:=a1 y e'
          have h2:=Qad.asymm _ _ (b1 x e);rw[h1] at h2;cases h2
     subst hxy
     congr 1
     refine ih a2 b2 fun z => ?_
     constructor
     · intro hz
       rcases List.mem_cons.1 ((h z).1 (List.mem_cons_of_mem _ hz)) with e | e
       · have h1:=a1 z hz
         have h2:=Qad.asymm _ _ h1;rw[e] at h1 h2;rw[h1] at h2;cases h2
       · exact e
     · intro hz
       rcases List.mem_cons.1 ((h z).2 (List.mem_cons_of_mem _ hz)) with e | e
       · have h1:=b1 z hz
         have h2:=Qad.asymm _ _ h1;rw[e] at h1 h2;rw[h1] at h2;cases h2
       · exact e
def fbB (e:Ev):Bool:=decide (e.kind=2)||decide (e.kind=3)
theorem Qnh {l:List Ev} (h14:∀ x∈l,x.kind≠14) (x:Ev):x∈Qbg l↔x∈Qc1 l:=by
 rw[(Qfx l).mem_iff];unfold Qem;rw[List.mem_filter];refine⟨fun h=>h.1,fun h=>⟨h,?_⟩⟩;unfold Qbv Qcb;rw[Bool.or_eq_true,Bool.not_eq_true',List.any_eq_false]
 left
 intro y hy hk;have:y.kind=14:=by simp at hk;exact hk.1
 exact h14 y (Qgu hy) this
theorem Xak {E L:List Ev} (hE:∀ x∈E,Xn x=true) (hL:∀ x∈L,Xn x=true) (hid:∀ x∈E,∀ y∈L,idE x≠idE y) (hE14:∀ x∈E,x.kind≠14) (hL14:∀ x∈L,x.kind≠14) (hfb:∀ y∈L,fbB y=false) :
 (Qbg (E++L)).filter fbB=(Qbg E).filter fbB:=by
 have hm:∀ x∈E++L,Xn x=true:=fun x hx=>(List.mem_append.1 hx).elim (hE x) (hL x)
 have h14:∀ x∈E++L,x.kind≠14:=fun x hx=>(List.mem_append.1 hx).elim (hE14 x) (hL14 x)
 refine Q45 ((Qhu hm).sublist List.filter_sublist) ((Qhu hE).sublist List.filter_sublist) fun x => ?_
 rw[List.mem_filter,List.mem_filter,Qnh h14,Qnh hE14,(Qqa hm).mem,(Qqa hE).mem];constructor
 · rintro ⟨⟨h1,h2⟩,h3⟩
   rcases List.mem_append.1 h1 with h | h
   · exact⟨⟨h,fun y hy=>h2 y (List.mem_append.2 (.inl hy))⟩,h3⟩
   · rw[hfb x h] at h3;cases h3
 · rintro ⟨⟨h1,h2⟩,h3⟩
   refine⟨⟨List.mem_append.2 (.inl h1),fun y hy he => ?_⟩,h3⟩;rcases List.mem_append.1 hy with h | h
   · exact h2 y h he
   · exact absurd he.symm (hid x h1 y h)
def Qt5 (e:Ev):Ev:=⟨e.src,e.num,e.at_.tmod 86400,e.kind,e.person,e.item,e.val,e.text⟩
def Qpq (i:Nat) (e:Ev):Ev:=⟨nb 115 7,e.num,e.at_.tmod 86400+(1+(i % 3:Nat))*86400,e.kind,e.person,e.item,e.val,e.text⟩
def Qel:List Ev→Nat→List Ev
 | [],_ => []
 | e :: l,i=>if fbB e=true then Qel l (i+1) else Qpq i e :: Qel l (i+1)
theorem Qvj (l m:List Ev) (i:Nat):Qel (l++m) i=Qel l i++Qel m (i+l.length):=by
 induction l generalizing i with
 | nil=>simp[Qel]
 | cons e l ih =>
   have h:i+1+l.length=i+(e :: l).length:=by rw[List.length_cons];omega
   by_cases hf:fbB e=true
   · simp only[List.cons_append,Qel,if_pos hf]
     rw[ih,h]
   · simp only[List.cons_append,Qel,if_neg hf]
     rw[ih,h]
theorem Q3y (l:List Ev) (k:Nat) (h:k<l.length):Qel (l.take (k+1)) 0=Qel (l.take k) 0++if fbB l[k]=true then [] else [Qpq k l[k]]:=by
 rw[List.take_succ_eq_append_getElem h,Qvj,List.length_take,Nat.zero_add,Nat.min_eq_left (Nat.le_of_lt h)]
 congr 1
theorem Qku {x:Ev}:∀ {l:List Ev} {i:Nat},x∈Qel l i→∃ e∈l,∃ k,fbB e=false∧x=Qpq k e
 | [],_,h=>by simp[Qel] at h
 | e :: l,i,h=>by
   by_cases hf:fbB e=true
   · rw[Qel,if_pos hf] at h
     obtain⟨f,hf1,k,h1,h2⟩:=Qku h
     exact⟨f,List.mem_cons_of_mem _ hf1,k,h1,h2⟩
   · rw[Qel,if_neg hf] at h
     rcases List.mem_cons.1 h with h | h
     · exact⟨e,List.mem_cons_self ..,i,by simpa using hf,h⟩
     · obtain⟨f,hf1,k,h1,h2⟩:=Qku h
       exact⟨f,List.mem_cons_of_mem _ hf1,k,h1,h2⟩
theorem Qxo (l:List Ev) (i:Nat):(Qel l i).length≤l.length:=by
 induction l generalizing i with
 | nil=>simp[Qel]
 | cons e l ih =>
   have:=ih (i+1);rw[Qel]
   split
   · rw[List.length_cons];omega
   · rw[List.length_cons,List.length_cons];omega
theorem Qk6 {t:Int} (h:0≤t):0≤t.tmod 86400∧t.tmod 86400<86400:=by
 rw[Int.tmod_eq_emod_of_nonneg h];omega
theorem Qxx {e:Ev} (h:Xn e=true) {s:ByteArray} {t:Int} (hs:Qn s=true) (ht:0≤t∧t≤1099511627776):Xn ⟨s,e.num,t,e.kind,e.person,e.item,e.val,e.text⟩=true:=by
 unfold Xn at h ⊢;simp only[Bool.and_eq_true] at h ⊢
 exact⟨⟨⟨hs,h.1.1.2⟩,by unfold inB;simp;omega⟩,h.2⟩
theorem Xa0 {e:Ev} (h:Xn e=true):Qn e.src=true:=by
 unfold Xn at h;simp only[Bool.and_eq_true] at h
 exact h.1.1.1
theorem Qkw {e:Ev} (h:Xn e=true):0≤e.at_∧e.at_≤1099511627776:=by
 unfold Xn at h;simp only[Bool.and_eq_true] at h;have:=h.1.2;unfold inB at this
 simpa using this
theorem Xac {e:Ev} (h:Xn e=true):Xn (Qt5 e)=true:=by
 have:=Qk6 (Qkw h).1
 exact Qxx h (Xa0 h) ⟨this.1,by omega⟩
theorem Q7u {e:Ev} (h:Xn e=true) (i:Nat):Xn (Qpq i e)=true:=by
 have:=Qk6 (Qkw h).1;refine Qxx h (Ql5 7 (by decide)).1 ⟨?_,?_⟩ <;> omega
structure Qt9 (l:List Ev):Prop where
 may:∀ e∈l,Xn e=true
 none:∀ e∈l,e.kind≠14
 src:∀ e∈l,e.src=nb 115 0∨e.src=nb 115 1
section
variable {l:List Ev}
theorem Qt9.early (h:Qt9 l):∀ e∈l.map Qt5,Xn e=true∧e.kind≠14∧0≤e.at_∧e.at_<86400:=fun e he=>by
 obtain⟨x,hx,rfl⟩:=List.mem_map.1 he;have:=Qk6 (Qkw (h.may x hx)).1
 exact⟨Xac (h.may x hx),h.none x hx,this.1,this.2⟩
theorem Qt9.late (h:Qt9 l):∀ e∈Qel l 0,Xn e=true∧e.kind≠14∧fbB e=false:=fun e he=>by
 obtain⟨x,hx,k,hf,rfl⟩:=Qku he
 exact⟨Q7u (h.may x hx) k,h.none x hx,hf⟩
theorem Xct:nb 115 0≠nb 115 7∧nb 115 1≠nb 115 7:=by decide
theorem Qt9.same (h:Qt9 l):(Qbg (l.map Qt5++Qel l 0)).filter fbB=(Qbg (l.map Qt5)).filter fbB:=by
 refine Xak (fun x hx=>(h.early x hx).1) (fun x hx=>(h.late x hx).1) (fun x hx y hy he => ?_) (fun x hx=>(h.early x hx).2.1) (fun x hx=>(h.late x hx).2.1) fun x hx=>(h.late x hx).2.2
 obtain⟨a,ha,rfl⟩:=List.mem_map.1 hx;obtain⟨b,hb,k,_,rfl⟩:=Qku hy
 have he:a.src=nb 115 7:=by
  have:=congrArg Prod.fst he
  simpa [idE,Qt5,Qpq] using this
 rcases h.src a ha with h1 | h1
 · exact Xct.1 (h1.symm.trans he)
 · exact Xct.2 (h1.symm.trans he)
end
abbrev Xdi:=ByteArray×ByteArray
abbrev Qk9:=ByteArray×Int
abbrev CaS:=List (Xdi×Bool)×List (Qk9×List ByteArray)
def onE (e:Ev):Qk9:=(e.person,e.at_.tdiv 86400)
def Qer (s:CaS) (e:Ev):CaS :=
 if fbB e=true then
  if(Qe s.1 (e.person,e.item)).getD false=true then s
  else(Q7 s.1 (e.person,e.item) true,Q7 s.2 (onE e) ((Qe s.2 (onE e)).getD [] ++ [e.item]))
 else s
def Qag (z:List Ev):CaS:=z.foldl Qer ([],[])
theorem Qi5 (z:List Ev) (e:Ev):Qag (z ++ [e])=Qer (Qag z) e:=by unfold Qag;rw[List.foldl_append];rfl
theorem Qrb (z:List Ev):Qag z=Qag (z.filter fbB):=by
 induction z using Qu with
 | h0=>rfl
 | h1 z e ih =>
   rw[Qi5,List.filter_append,ih]
   by_cases h:fbB e=true
   · rw[List.filter_cons_of_pos h,List.filter_nil,Qi5]
   · rw[List.filter_cons_of_neg h,List.filter_nil,List.append_nil]
     unfold Qer;rw[if_neg h]
theorem Q92 {z z':List Ev} (h:z.filter fbB=z'.filter fbB):Qag z=Qag z':=by rw[Qrb z,Qrb z',h]
theorem Q87 {z:List Ev}:∀ x∈(Qag z).2,∃ e∈z,fbB e=true∧x.1=onE e:=by
 induction z using Qu with
 | h0=>intro x hx;cases hx
 | h1 z e ih =>
   intro x hx;rw[Qi5] at hx
   have old:x∈(Qag z).2→∃ f∈z ++ [e],fbB f=true∧x.1=onE f:=fun h=>by
    obtain⟨f,hf,h1,h2⟩:=ih x h
    exact⟨f,List.mem_append.2 (.inl hf),h1,h2⟩
   unfold Qer at hx
   by_cases hf:fbB e=true
   · rw[if_pos hf] at hx
     split at hx
     · exact old hx
     · rcases X4 hx with h | h
       · exact⟨e,by simp,hf,by rw[h]⟩
       · exact old h
   · rw[if_neg hf] at hx
     exact old hx
theorem Q2o (z:List Ev):(Qag z).2.length≤z.length:=by
 induction z using Qu with
 | h0=>simp[Qag]
 | h1 z e ih =>
   rw[Qi5,List.length_append,List.length_singleton];unfold Qer
   split
   · split
     · omega
     · have:=Qcp (onE e) ((Qe (Qag z).2 (onE e)).getD [] ++ [e.item]) (Qag z).2
       simp only;omega
   · omega
theorem Q2p (z:List Ev):∀ x∈(Qag z).2,x.2.length≤z.length∧∀ i∈x.2,∃ e∈z,fbB e=true∧i=e.item:=by
 induction z using Qu with
 | h0=>intro x hx;cases hx
 | h1 z e ih =>
   intro x hx;rw[Qi5] at hx
   have grow:∀ l:List ByteArray,(l.length≤z.length∧∀ i∈l,∃ f∈z,fbB f=true∧i=f.item)→l.length≤(z ++ [e]).length∧∀ i∈l,∃ f∈z ++ [e],fbB f=true∧i=f.item:=fun l h=>by
    refine⟨by rw[List.length_append];omega,fun i hi => ?_⟩;obtain⟨f,hf,h1,h2⟩:=h.2 i hi
    exact⟨f,List.mem_append.2 (.inl hf),h1,h2⟩
   unfold Qer at hx
   by_cases hf:fbB e=true
   · rw[if_pos hf] at hx
     split at hx
     · exact grow _ (ih x hx)
     · rcases X4 hx with h | h
       · rw[h]
         have hold:((Qe (Qag z).2 (onE e)).getD []).length≤z.length∧∀ i∈(Qe (Qag z).2 (onE e)).getD [],∃ f∈z,fbB f=true∧i=f.item:=by
          cases hq:Qe (Qag z).2 (onE e) with
          | none=>exact⟨Nat.zero_le _,fun i hi=>by cases hi⟩
          | some r=>exact ih _ (Xt hq)
         refine⟨by simp only[List.length_append,List.length_singleton];omega,fun i hi => ?_⟩;rcases List.mem_append.1 hi with hi | hi
         · exact(grow _ hold).2 i hi
         · exact⟨e,by simp,hf,List.mem_singleton.1 hi⟩
       · exact grow _ (ih x h)
   · rw[if_neg hf] at hx
     exact grow _ (ih x hx)
section
variable {κ:Type} [DecidableEq κ] {ek:κ→Value} {α:Type} {enc:α→List Value} {sz:Nat} {te:TypeId} {w w1 w2 w3:World} {S S':Nat→Prop} {bm:Nat} {rows:κ→List α} {L:List (κ×(Option Addr×Nat))} {P:Program} {mt kt et:TypeId}
def Qyo (rows:κ→List α) (L:List (κ×(Option Addr×Nat))):List (κ×Value):=L.map fun x=>(x.1,Value.slice x.2.1 (rows x.1).length x.2.2)
structure Qa1 (ek:κ→Value) (enc:α→List Value) (sz:Nat) (te:TypeId) (w:World) (S:Nat→Prop) (bm:Nat) (rows:κ→List α) (L:List (κ×(Option Addr×Nat))):Prop where
 mine:S bm
 map:MapAt w bm ek (Qyo rows L)
 row:∀ x∈L,Own enc sz te 0 w x.2.1 x.2.2 (rows x.1)∧∀ a,x.2.1=some a→S a.block∧a.block≠bm
 ne:∀ x∈L,rows x.1 ≠ []
 apart:L.Pairwise (fun x y=>∀ a a',x.2.1=some a→y.2.1=some a'→a.block≠a'.block)
 all:∀ k,Qe L k=none→rows k = []
theorem Qa1.keys (h:Qa1 ek enc sz te w S bm rows L):L.Pairwise (fun x y=>x.1≠y.1):=by
 have:=h.map.keys;unfold Qyo at this;rw[List.pairwise_map] at this
 exact this
theorem Qly (k:κ):∀ L:List (κ×(Option Addr×Nat)),Qe (Qyo rows L) k=(Qe L k).map fun p=>Value.slice p.1 (rows k).length p.2
 | []=>rfl
 | x :: L=>by
   simp only[Qyo,List.map_cons,Qe]
   by_cases e:k=x.1
   · subst e;simp
   · rw[if_neg e,if_neg e];exact Qly k L
theorem Qa1.keep (h:Qa1 ek enc sz te w S bm rows L) (hk:∀ k,k<w.heap.size→S k→w1.heap[k]? = w.heap[k]? ∧ S' k):Qa1 ek enc sz te w1 S' bm rows L where
 mine:=(hk bm h.map.lt h.mine).2
 map:=h.map.keep (hk bm h.map.lt h.mine).1
 row x hx:=by
  obtain⟨h1,h2⟩:=h.row x hx
  exact⟨h1.keep fun a ha=>(hk a.block (h1.block ha).2 (h2 a ha).1).1,fun a ha=>⟨(hk a.block (h1.block ha).2 (h2 a ha).1).2,(h2 a ha).2⟩⟩
 ne:=h.ne
 apart:=h.apart
 all:=h.all
def Qbn (L:List (κ×(Option Addr×Nat))) (k:κ):Option Addr×Nat:=(Qe L k).getD (none,0)
theorem Qa1.own (h:Qa1 ek enc sz te w S bm rows L) (k:κ):Own enc sz te 0 w (Qbn L k).1 (Qbn L k).2 (rows k)∧∀ a,(Qbn L k).1=some a→S a.block∧a.block≠bm:=by
 unfold Qbn
 cases hk:Qe L k with
 | none=>rw[h.all k hk];exact⟨Own.nil,fun a ha=>by simp at ha⟩
 | some p =>
   have:=h.row _ (Xt hk)
   exact this
theorem Qa1.look (h:Qa1 ek enc sz te w S bm rows L) (ht:P.underlying mt=some (.map kt et)) (hkt:Qnc P kt ek) {e:TyE} (he:Q5 P et=some e) (hz:e.zero = .slice none 0 0) (k:κ) {cl:Cl} (hc:Kept cl w bm) :
 RdS P cl w (Instr.lookup mt (.map (some bm)) (ek k) false) (.slice (Qbn L k).1 (rows k).length (Qbn L k).2):=by
 have:=X7 ht hkt he hc h.map k;rw[Qly,hz] at this;unfold Qbn
 cases hk:Qe L k with
 | none=>rw[hk] at this;rw[h.all k hk];exact this
 | some p=>rw[hk] at this;exact this
def Qjt (rows:κ→List α) (k:κ) (r:List α) (x:κ):List α:=if x=k then r else rows x
theorem Qtr {k:κ} {p:Option Addr×Nat} {r:List α}:∀ {L:List (κ×(Option Addr×Nat))},L.Pairwise (fun x y=>x.1≠y.1)→Qyo (Qjt rows k r) (Q7 L k p)=Q7 (Qyo rows L) k (.slice p.1 r.length p.2)
 | [],_=>by simp[Qyo,Q7,Qjt]
 | x :: L,hp=>by
   rw[List.pairwise_cons] at hp;simp only[Qyo,List.map_cons,Q7]
   by_cases e:k=x.1
   · subst e
     simp only[if_true,List.map_cons,Qjt]
     congr 1
     apply List.map_congr_left
     intro y hy;simp only[if_neg (fun e:y.1=x.1=>hp.1 y hy e.symm)]
   · simp only[if_neg e,List.map_cons,Qjt,if_neg (fun q:x.1=k=>e q.symm)]
     congr 1
     exact Qtr hp.2
theorem Qq4 {β:Type} {R:κ×β→κ×β→Prop} {k:κ} {p:β}:∀ {L:List (κ×β)},L.Pairwise R→(∀ y∈L,y.1≠k→R (k,p) y)→(∀ y∈L,y.1≠k→R y (k,p))→L.Pairwise (fun x y=>x.1≠y.1)→(Q7 L k p).Pairwise R
 | [],_,_,_,_=>by simp[Q7]
 | x :: L,hp,h1,h2,hk=>by
   rw[List.pairwise_cons] at hp hk;simp only[Q7]
   by_cases e:k=x.1
   · subst e
     rw[if_pos rfl,List.pairwise_cons]
     exact⟨fun y hy=>h1 y (by simp[hy]) (fun q=>hk.1 y hy q.symm),hp.2⟩
   · rw[if_neg e,List.pairwise_cons]
     refine⟨fun y hy => ?_,Qq4 hp.2 (fun y hy=>h1 y (by simp[hy])) (fun y hy=>h2 y (by simp[hy])) hk.2⟩;rcases X4 hy with rfl | hy
     · exact h2 x (by simp) (fun q=>e q.symm)
     · exact hp.1 y hy
theorem Qa1.push (h:Qa1 ek enc sz te w S bm rows L) {k:κ} {r:List α} (hr:r ≠ []) {A':Option Addr} {c':Nat} (hx:Ext w w1) (hg:∀ i,i<w1.heap.size→i≠bm→some i≠(Qbn L k).1.map (·.block)→w2.heap[i]? = w1.heap[i]?) (hA:A'=(Qbn L k).1∨A'.map (·.block)=(Qbn L k).1.map (·.block)∨A'.map (·.block)=some w1.heap.size)
 (hown:Own enc sz te 0 w2 A' c' r) (hm:MapAt w3 bm ek (Q7 (Qyo rows L) k (.slice A' r.length c'))) (ho:Only w2 w3 bm):Qa1 ek enc sz te w3 (Grow S w) bm (Qjt rows k r) (Q7 L k (A',c')):=by
 have hbm:=h.map.lt
 have hblk:∀ a,A'=some a→a.block≠bm∧Grow S w a.block∧((∃ a0,(Qbn L k).1=some a0∧a0.block=a.block)∨a.block=w1.heap.size):=by
  intro a ha;subst ha;have h2:=(h.own k).2;have hs:=hx.size;rcases hA with hA | hA | hA
  · obtain⟨q1,q2⟩:=h2 a hA.symm
    exact⟨q2,.inl q1,.inl ⟨a,hA.symm,rfl⟩⟩
  · cases hr0:(Qbn L k).1 with
    | none=>rw[hr0] at hA;simp at hA
    | some a0 =>
      rw[hr0] at hA;obtain⟨q1,q2⟩:=h2 a0 hr0;have e:a.block=a0.block:=by simpa using hA
      rw[e]
      exact⟨q2,.inl q1,.inl ⟨a0,rfl,rfl⟩⟩
  · have e:a.block=w1.heap.size:=by simpa using hA
    rw[e]
    exact⟨by omega,.inr hs,.inr rfl⟩
 have hoth:∀ x∈L,x.1≠k→Own enc sz te 0 w3 x.2.1 x.2.2 (rows x.1)∧(∀ a,x.2.1=some a→S a.block∧a.block≠bm)∧∀ a a',x.2.1=some a→A'=some a'→a.block≠a'.block:=by
  intro x hxL hne;obtain⟨h1,h2⟩:=h.row x hxL
  have hap:∀ a a0,x.2.1=some a→(Qbn L k).1=some a0→a.block≠a0.block:=by
   intro a a0 ha ha0;unfold Qbn at ha0
   cases hk:Qe L k with
   | none=>rw[hk] at ha0;simp at ha0
   | some p =>
     rw[hk] at ha0;have hin:=Xt hk;have hpw:=h.apart
     have:∀ {L:List (κ×(Option Addr×Nat))},L.Pairwise (fun x y=>∀ a a',x.2.1=some a→y.2.1=some a'→a.block≠a'.block)→x∈L→(k,p)∈L→a.block≠a0.block:=by
      intro L
      induction L with
      | nil=>intro _ h;simp at h
      | cons y L ih =>
        intro hp m1 m2;rw[List.pairwise_cons] at hp;rcases List.mem_cons.1 m1 with e1 | n1 <;> rcases List.mem_cons.1 m2 with e2 | n2
        · exact absurd (by rw[e1,← e2]) hne
        · subst e1;exact hp.1 _ n2 a a0 ha (by simpa using ha0)
        · subst e2;exact fun q=>hp.1 _ n1 a0 a (by simpa using ha0) ha q.symm
        · exact ih hp.2 n1 n2
     exact this hpw hxL hin
  refine⟨h1.keep fun a ha => ?_,h2,fun a a' ha ha' => ?_⟩
  · have hlt:=(h1.block ha).2
    have hs:=hx.size;rw[ho.block _ (h2 a ha).2,hg _ (by omega) (h2 a ha).2 ?_,hx.block _ hlt];intro e
    cases hr0:(Qbn L k).1 with
    | none=>rw[hr0] at e;simp at e
    | some a0=>rw[hr0] at e;exact hap a a0 ha hr0 (by simpa using e)
  · have hlt:=(h1.block ha).2
    have hs:=hx.size;rcases (hblk a' ha').2.2 with⟨a0,q1,q2⟩ | q
    · rw[← q2];exact hap a a0 ha q1
    · rw[q];omega
 refine⟨.inl h.mine,?_,?_,?_,?_,?_⟩
 · rw[Qtr h.keys];exact hm
 · intro x hx'
   rcases X4 hx' with rfl | hxL
   · refine⟨?_,fun a ha=>⟨(hblk a ha).2.1,(hblk a ha).1⟩⟩
     simp only[Qjt,if_true]
     exact hown.keep fun a ha=>ho.block _ (hblk a ha).1
   · by_cases e:x.1=k
     · have hin:∀ {L:List (κ×(Option Addr×Nat))},L.Pairwise (fun x y=>x.1≠y.1)→x∈Q7 L k (A',c')→x.1=k→x=(k,(A',c')):=by
        intro L hp hm' he;have h1:=Qcd (X5 hp) (k:=x.1) (v:=x.2) (by simpa using hm');rw[he,Q8] at h1;have:(A',c')=x.2:=by simpa using h1
        rw[this,← he]
       have:=hin h.keys hx' e;subst this;refine⟨?_,fun a ha=>⟨(hblk a ha).2.1,(hblk a ha).1⟩⟩;simp only[Qjt,if_true]
       exact hown.keep fun a ha=>ho.block _ (hblk a ha).1
     · obtain⟨q1,q2,_⟩:=hoth x hxL e
       simp only[Qjt,if_neg e]
       exact⟨q1,fun a ha=>⟨.inl (q2 a ha).1,(q2 a ha).2⟩⟩
 · intro x hx'
   by_cases e:x.1=k
   · simp only[Qjt,if_pos e];exact hr
   · rcases X4 hx' with rfl | hxL
     · exact absurd rfl e
     · simp only[Qjt,if_neg e];exact h.ne x hxL
 · refine Qq4 h.apart (fun y hy hne a a' ha ha' => ?_) (fun y hy hne a a' ha ha' => ?_) h.keys
   · exact fun q=>(hoth y hy hne).2.2 a' a ha' ha q.symm
   · exact(hoth y hy hne).2.2 a a' ha ha'
 · intro k' hk'
   rw[Xg] at hk'
   by_cases e:k'=k
   · rw[if_pos e] at hk';cases hk'
   · rw[if_neg e] at hk'
     simp only[Qjt,if_neg e]
     exact h.all k' hk'
theorem Qa1.new {b:Nat} (hn:New w w1 b (.map #[] 0)) (hb:S b):Qa1 ek enc sz te w1 S b (fun _ => []) [] :=
 ⟨hb,MapAt.new hn,by simp,by simp,by simp,fun _ _=>rfl⟩
end
end Go.Proofs.YtohkipkjleldpaaGreatDoor
