import Derived.RangeFuncWrites
import Derived.Shelf.SlIter.Stops
import Derived.Shelf.RegionOpen
import Derived.RangeFuncCalls
import Derived.RangeFuncNested
import Derived.Test.YtpdonaienhociaaGreatDoorGXB
set_option linter.all false
namespace Go.Proofs.YtpdonaienhociaaGreatDoor
open Go.RowKit Go.Se
def Qcx (tf:TypeId) (W W':World):Prop:=∀ k v,Boxed W k tf v->Boxed W' k tf v
theorem Qcx.trans {tf:TypeId} {A B C:World} (h:Qcx tf A B) (k:Qcx tf B C):Qcx tf A C:=fun i v hi=>k i v (h i v hi)
theorem Qcx.putObj {tf:TypeId} {W:World} {l:Nat} {o:Obj} (o':Obj) (h:W.heap[l]? = some o) (ho:o.isCells=false):Qcx tf W (W.putObj l o'):=fun k v hb=>by
 refine(World.putObj_heap_other fun e => ?_).trans hb;subst e;have hb':W.heap[k]? = _:=hb;rw[h] at hb';cases hb';cases ho
theorem Qgo {B:Nat} {W:World} {l:Nat} (o':Obj) (hl:l<B):KeepsFrom B W (W.putObj l o'):=⟨by simp,fun k o hB hk _=>(World.putObj_heap_other Om).trans hk⟩
def Xjj {α:Type} (n:Nat) (P:Program) (g:Nat) (lb:Array Value) (encs:α->Array Value) (S:List α->Prop) (N:Nat) (tf:TypeId) (Rd:World->Prop) (w:World):Prop :=
 ∀ (l:Nat) (J:List α->World->Prop) (W:World),Below w.heap.size w W->OwnFrom W.heap.size J->(∀ pre W1,J pre W1->Rd W1) ->
   (∀ pre x W1,J pre W1->pre.length<N->YieldAt Fence.wide (n-1) P l (encs x) W1 fun e W'=>e = .returned (.bool true)/\J (pre ++ [x]) W'/\KeepsWalks W1 W'/\KeepsFrom W.heap.size W1 W'/\Qcx tf W1 W') ->
   J [] W->CallsIn Fence.wide n P g (#[.func (.yield l) #[] #[]]++lb) W fun e W'=>(∃ v,e = .returned v)/\∃ xs,S xs/\J xs W'
theorem Qny {A B:World} {row:Option Nat} {k:Nat} (hg:A.grownBy B row) (hk:k<A.heap.size) (hr:∀ r,row=some r->r≠k):B.heap[k]? = A.heap[k]? :=
 hg.block k hk fun e=>hr k e.symm rfl
theorem Qgi {W:World} {k:Nat} {o:Obj} (h:W.heap[k]? = some o):k<W.heap.size:=(Array.getElem?_eq_some_iff.1 h).1
theorem Q88 {α:Type} {P:Program} {n:Nat} {g:Operand} {ps:Array Tmp} {assign body:Code} {Q:Exit->Act->World->Prop} {a:Act} {w:World} {gf:Nat} {lb:Array Value}
 (hg:a.eval g = .func (.func gf) #[] lb) (eg:∀ args w,(callFunc gf args).run P w = .ok (.enter gf args) w) {encs:α->Array Value} {S:List α->Prop} {N:Nat} {tf:TypeId} {Rd:World->Prop}
 (hseq:Xjj (n-1) P gf lb encs S N tf Rd w) (hps:∀ x,(encs x).size=ps.size) (I:List α->World->Prop) (hI:OwnFrom w.heap.size I) (hRd:∀ pre W,I pre W->Rd W) (h0:I [] w) (a1:α->Act)
 (hassign:∀ (l:Nat) (x:α) (W:World) (K:Act->World->Prop),K (a1 x) W->assign.wpIn (Fence.wide.inRound l) (n-1-1) P (Exit.then K (fun _ _ _=>False)) { tmps:=(ps.zip (encs x)).foldl (fun t (p,v)=>t.setIfInBounds p v) a.tmps,defers := [] } W)
 (hbody:∀ (l:Nat) (pre:List α) (x:α) (W:World),I pre W->pre.length<N->body.wpIn (Fence.wide.inRound l) (n-1-1) P (fun e _ W'=>e = .normal/\KeepsOthers W W'/\Qcx tf W W'/\I (pre ++ [x]) W') (a1 x) W)
 (hdone:∀ (xs:List α) (W:World),S xs->I xs W->W.heap[w.heap.size]? = some (.deferred (some []))->Q .normal { a with defers:={ target := .collected w.heap.size,args := #[] } :: a.defers } W) :
 (Code.rangeFunc g ps assign body).wpIn Fence.wide n P Q a w:=by
 refine wpIn_rangeFunc fun fn hfn => ?_
 rw[show Fence.wide.round=none from rfl];obtain⟨rec,hrec⟩:∃ rec:LoopState->Loop,rec=fun st=>{ state:=st,pending:=none,fn,tmps:=a.tmps,params:=ps,assign,body,defers:=w.heap.size }:=⟨_,rfl⟩
 have hst:∀ st,(rec st).state=st:=fun st=>by rw[hrec]
 obtain⟨W1,hW1⟩:∃ W1,(w.alloc (.deferred (some []))).alloc (.loop (rec .ready))=W1:=⟨_,rfl⟩;have z1:W1.heap.size=w.heap.size+2:=by rw[<- hW1];simp
 have hL:W1.heap[w.heap.size+1]? = some (.loop (rec .ready)):=by
  rw[<- hW1];have:=World.alloc_heap_new (w.alloc (.deferred (some []))) (.loop (rec .ready))
  rwa [World.size_alloc] at this
 have hD:W1.heap[w.heap.size]? = some (.deferred (some [])):=(by rw[<- hW1];exact(Below.heap_alloc _ _ _ (by simp)).trans (World.alloc_heap_new w _));have hb1:Below w.heap.size w W1:=(by rw[<- hW1];exact((Below.refl _ w).alloc (Zg _) _).alloc (by simp) _);have h1:I [] W1:=by rw[<- hW1];exact hI.alloc _ (hI.alloc _ h0)
 refine⟨w.heap.size+1,[{ target := .collected w.heap.size,args := #[] }],W1,{ target := .fn (.func gf) lb,args := #[.func (.yield (w.heap.size+1)) #[] #[]] },W1,gf,#[.func (.yield (w.heap.size+1)) #[] #[]]++lb,W1,?_,?_,?_,?_,?_,?_⟩
 . rw[<- hW1,hrec];exact run_enterLoop_outer _ _ _ _ _
 . simp only[resolve,hg];simp[go_sem]
 . intro _ _;trivial
 . simp[invoke,go_sem,eg]
 . intro h;cases h
 refine(hseq (w.heap.size+1) (fun pre W=>I pre W/\W.heap[w.heap.size+1]? = some (.loop (rec .ready))/\W.heap[w.heap.size]? = some (.deferred (some []))) W1 hb1 ?_ (fun pre W h=>hRd pre W h.1) ?_ ⟨h1,hL,hD⟩).mono ?_
 . rintro s A B row ⟨hi,hl,hd⟩ hg' hr;refine⟨hI s A B row hi hg' fun r e=>⟨by have:=(hr r e).1;omega,(hr r e).2⟩,?_,?_⟩
   . rw[Qny hg' (Qgi hl) fun r e=>by have:=(hr r e).1;omega];exact hl
   . rw[Qny hg' (Qgi hd) fun r e=>by have:=(hr r e).1;omega];exact hd
 . rintro pre x W ⟨hi,hl,hd⟩ hlen;have hy:=run_yield (P:=P) (args:=encs x) hl (by rw[hrec];exact hps x);rw[hrec] at hy;refine⟨fn,_,assign,body,hy,roundIn_of_wpIn hfn (hassign _ x W _ ⟨_,run_beginRound hl (hst _),?_⟩)⟩;have hlt:=Qgi hl;obtain⟨W2,hW2⟩:∃ W2,W.putObj (w.heap.size+1) (.loop { rec .ready with state := .busy })=W2:=⟨_,rfl⟩;have hl2:W2.heap[w.heap.size+1]? = some (.loop { rec .ready with state := .busy }):=by rw[<- hW2];exact World.putObj_heap_same hlt
   have hd2:W2.heap[w.heap.size]? = some (.deferred (some [])):=by rw[<- hW2];exact(World.putObj_heap_other Om).trans hd
   have hk2:KeepsWalks W W2:=by rw[<- hW2];exact KeepsWalks.putObj _ hl rfl
   have hf2:KeepsFrom W1.heap.size W W2:=by rw[<- hW2];exact Qgo _ Om
   have hx2:Qcx tf W W2:=by rw[<- hW2];exact Qcx.putObj _ hl rfl
   have hi2:I pre W2:=by rw[<- hW2];exact hI.putObj _ hi Om hl rfl
   rw[hW2];refine wpIn_mono (hbody _ pre x W2 hi2 hlen) ?_;rintro e a3 W3 ⟨rfl,hk3,hb3,hi3⟩;have hl3:=hk3.same _ _ hl2 rfl;have hd3:=hk3.same _ _ hd2 rfl;have hr3:=run_endRound (P:=P) none hl3;refine⟨_,_,hr3,rfl,⟨hI.putObj _ hi3 Om hl3 rfl,?_,(World.putObj_heap_other Om).trans hd3⟩,(hk2.trans hk3.walks).trans (KeepsWalks.putObj _ hl3 rfl),(hf2.trans (hk3.from _)).trans (Qgo _ Om),(hx2.trans hb3).trans (Qcx.putObj _ hl3 rfl)⟩;rw[World.putObj_heap_same (Qgi hl3),hrec];rfl
 . rintro e W2 ⟨⟨v,rfl⟩,xs,hS,hi,hl,hd⟩;have hend:=run_endLoop (P:=P) hl (by rw[hst];simp);refine⟨none,_,by rw[hend,hrec],?_⟩;exact hdone xs _ hS (hI.putObj _ hi Om hl rfl) ((World.putObj_heap_other Om).trans hd)
open Go.Maps Go.Sort Go.Shelf Go.WideElems
attribute [local go_sem] Oper.semAt_some
theorem Qyc {P:Program} {ρ7:Ren} (K:SlLaysZ.n10 P ρ7) {w:World} {Bm b:Nat} {L:List (Bj×Value)} (hc:w.cell? ⟨Bm,0,none⟩=some (.map (some b))) (hm:MapAt w b Value.string L) (hk:∀ x∈L,x.1.size<=1000000) (hl:L.length<=1000000000) (n:Nat) (hn:1<=n) :
 ∃ Q Sp,(∀ ss:List (List UInt8),Q ss->ss.Perm ((L.map (·.1)).map fun x=>x.data.toList))/\SeqStopsK Fence.wide n P (ρ7.f 10) #[Pj Bm] (fun x => #[encStr x]) KeepsWalks Q Sp L.length w:=by
 obtain⟨es,hown,hes⟩:=Qsd (P:=P) (k:=ρ7.t 26) hm (fun a b e=>Su e) (fun x => .string x.data.toList) (fun x hx=>Go.WideMaps.keyOf_string_mk K.t26 (by have:=hk x hx;unfold maxLen;omega)) hl;have hsz:Maps.size (.map es)=L.length:=(by have:=hes.length_eq;simp at this;simpa [Maps.size] using this);refine⟨_,_,fun ss hp => ?_,hsz ▸ AnyZ.keys_stops K Fence.wide n trivial rfl hn Bm b _ _ w (cell_lt hc) hc hown⟩;refine hp.1.trans ?_;simp only[strKeys];refine(hes.map _).trans ?_;rw[Zy,Zy];exact Za1 _
theorem Q7h {A B:World} (h:Ext A B):A.grownBy B none:=⟨h.os,h.tape,h.output,h.size,fun k hk _=>h.block k hk⟩
theorem Qir {β:Type} {B:Nat} {I:β->World->Prop} (h:OwnFrom B I) {s:β} {W W':World} (hs:I s W) (hx:Ext W W'):I s W':=h s W W' none hs (Q7h hx) fun r e=>by cases e
theorem Qh9 {A B:World} (h:Ext A B):KeepsWalks A B:=⟨h.size,fun k o hk _=>(h.block k (Qgi hk)).trans hk⟩
theorem Qjp {N:Nat} {A B:World} (h:Ext A B):KeepsFrom N A B:=⟨h.size,fun k o _ hk _=>(h.block k (Qgi hk)).trans hk⟩
theorem Qpv {N M:Nat} {A B:World} (h:KeepsFrom N A B) (hN:N<=M):KeepsFrom M A B:=⟨h.size,fun k o hk=>h.same k o (Zv hN hk)⟩
theorem Q9n {n m k l:Nat} {P:Program} {f:FuncId} {tmps:Array Value} {assign body:Code} {w:World} {R:Ending->World->Prop} (h:RoundIn Fence.wide n P l f tmps assign body w R):RoundIn (Fence.wide.inRound k) m P l f tmps assign body w R:=⟨h.1,fun c cs _=>h.2 c cs fun d hd=>by cases hd⟩
structure RdC (S:Nat->Prop) (p:Nat) (half dn:Int) (s:Qld) (now:Int) (bc bn:Nat) (W:World):Prop where
 ct:Qpm W S p half dn s
 bc:W.cell? ⟨bc,0,none⟩=some (Pj p)
 bn:W.cell? ⟨bn,0,none⟩=some (Vj now)
def flC (s:Qld) (half now:Int) (pre:List (List UInt8)):List Ct:=((pre.map fun x=>(⟨x.toArray⟩:Bj)).map fun k=>(k,Qby s half k now)).filter fun x=>decide (0<x.2)
theorem Xb8 (s:Qld) (half now:Int) (pre:List (List UInt8)) (x:List UInt8):flC s half now (pre ++ [x])=flC s half now pre++if 0<Qby s half ⟨x.toArray⟩ now then [(⟨x.toArray⟩,Qby s half ⟨x.toArray⟩ now)] else []:=by
 unfold flC;rw[Zp,Zp,Zq];congr 1
 by_cases h:0<Qby s half ⟨x.toArray⟩ now
 . simp[h]
 . simp[h]
theorem Xb7 {s:Qld} {half now:Int} {ss:List (List UInt8)} (h:ss.Perm ((s.map (·.1)).map fun x=>x.data.toList)):(flC s half now ss).Perm (Qg1 s half now):=by
 unfold flC Qg1;refine List.Perm.filter _ (List.Perm.map _ ?_);have:=h.map fun x=>(⟨x.toArray⟩:Bj)
 rw[Zy] at this;refine this.trans ?_;rw[show ((fun x:List UInt8=>(⟨x.toArray⟩:Bj)) ∘ fun x:Bj=>x.data.toList)=id from funext fun x=>rfl,List.map_id]
theorem Xfr (s:Qld) (half now:Int) (pre:List (List UInt8)):(flC s half now pre).length<=pre.length:=by
 unfold flC;have:=Zc (fun x:Ct=>decide (0<x.2)) ((pre.map fun x=>(⟨x.toArray⟩:Bj)).map fun k=>(k,Qby s half k now));simpa using this
set_option maxRecDepth 100000 in
set_option maxHeartbeats 4000000 in
theorem Qxp (S:Nat->Prop) (p:Nat) (half dn:Int) (s:Qld) (now:Int) (hnow:0<=now/\now<=1099511627776) (ht:∀ key r,Qe s key=some r->∀ x∈r,0<=x.1/\x.1<=1099511627776) (hk:∀ x∈s,x.1.size<=1000000) (hl:s.length<=1000000) (bc bn:Nat) (w:World) :
 Xjj 6 Tryz.prog 290 #[Pj bc,Pj bn] (fun x:Ct => #[.string x.1,Vj x.2]) (fun xs=>xs.Perm (Qg1 s half now)) s.length 268 (RdC S p half dn s now bc bn) w:=by
 intro l J W hW hJ hR hY h0;have hrd:=hR [] W h0;refine callsIn_of_wp_marks Tryz.func290 rfl trivial ?_ rfl;simp only[Tryz.ntmps290,Zbf,Z8,Zam,Nat.reduceAdd,Nat.reduceSub,Zcc,Zcd,Zc1,Zci,Zan,Zay];have cy:(W.alloc (.cells #[.func (.yield l) #[] #[]] 268)).cell? ⟨W.heap.size,0,none⟩=some (.func (.yield l) #[] #[]):=Qsq _ _ _;have hxa:Ext W (W.alloc (.cells #[.func (.yield l) #[] #[]] 268)):=(Below.refl _ _).alloc (Zg _) _;have hya:Boxed (W.alloc (.cells #[.func (.yield l) #[] #[]] 268)) W.heap.size 268 (.func (.yield l) #[] #[]):=Boxed.new _ _ _;have cc:=hxa.cell hrd.bc;have cn:=hxa.cell hrd.bn;obtain⟨bm,hct⟩:=hrd.ct
 have cs:(W.alloc (.cells #[.func (.yield l) #[] #[]] 268)).cell? ⟨p,2,none⟩=some (.map (some bm)):=by
  have:=hxa.cell (hct.head.one (k:=2) (v := .map (some bm)) rfl)
  rwa [Q8] at this
 gi_wp2_with (refine⟨trivial,?_⟩;gi_at_call 291;refine(callsIn_wide.2 (Qfw Tryz.keys291 ⟨_,Tryz.func291,rfl,rfl⟩ (some bm) _).2).mono ?_;rintro e w2 ⟨v,rfl,rfl,hcell,hx2⟩)
 replace hcell:w2.cell? ⟨W.heap.size+1,0,none⟩=some (.map (some bm)):=Su hcell;have hx02:=hxa.trans hx2;have hy2:Boxed w2 W.heap.size 268 (.func (.yield l) #[] #[]):=(hx2.block _ hya.lt).trans hya;obtain⟨LK,hLK,hLKk⟩:=Qwq hct.sums;have hLl:LK.length=s.length:=by have:=congrArg List.length hLKk;simpa using this
 obtain⟨Q,Sp,hQ,hseq⟩:=Qyc { Tryz.keys291 with } hcell (hLK.ext hx02) (fun x hx=>by
  have:x.1∈s.map (·.1):=by rw[<- hLKk];exact Zh.2 ⟨x,hx,rfl⟩
  obtain⟨y,hy,he⟩:=Zh.1 this;rw[<- he];exact hk y hy) Om 5 Om
 refine wpIn_rangeFunc_ownG (α:=List UInt8) rfl Om (gf:=339) (lb := #[.pointer (some ⟨W.heap.size+1,0,none⟩)]) rfl trivial (enters_of Tryz.func339 Kr rfl) hseq walksK_t walksK_b (Below.refl _ _) (fun _=>rfl)
  (fun pre W'=>J (flC s half now pre) W'/\Boxed W' W.heap.size 268 (.func (.yield l) #[] #[])) (fun _ _ _=>False)
  (OwnFrom.and (fun pre A B row hs hg hr=>hJ (flC s half now pre) A B row hs hg fun r e=>⟨Zv hx02.size (hr r e).1,(hr r e).2⟩) (Own.from (boxed_own (β:=List (List UInt8)) W.heap.size 268 fun _ => .func (.yield l) #[] #[]) _))
  (fun _ _ _ _ _ hs _ _=>hs) ⟨Qir hJ h0 hx02,hy2⟩
  (fun x=>{ tmps := #[.func (.yield l) #[] #[],Pj bc,Pj bn,Pj W.heap.size,.string ⟨x.toArray⟩,undef,Pj p,Pj p,.pointer (some ⟨p,2,none⟩),.map (some bm),.func (.func 339) #[] #[.pointer (some ⟨W.heap.size+1,0,none⟩)],.string ⟨x.toArray⟩,undef,undef,undef,undef,undef,undef,undef,undef,undef,undef,undef,undef,undef],defers := [] }) ?assign ?body ?done ?stop
 case assign =>
  intro l x W K hK
  gi_wp2
  exact hK
 case body =>
  rintro l2 pre x W3 ⟨hj,hy3⟩ hlt;have hrd3:=hR _ _ hj;have c1:=hrd3.bc;have c2:=hrd3.bn;have c3:=hy3.cell;have hat:=Qqb W3 S p half dn s hrd3.ct ⟨x.toArray⟩ now hnow (ht _);have hsn:=Xb8 s half now pre x;have hfl:=Xfr s half now pre;generalize Qby s half ⟨x.toArray⟩ now=m at hat hsn
  by_cases hpos:0<m
  . gi_wp2_with (refine⟨trivial,?_⟩;gi_at_call 245;refine(CallsIn.inRound l2 (callsIn_wide.2 hat.2)).mono ?_;rintro e W4 ⟨v,rfl,rfl,hx4⟩;have c4:=hx4.cell c3;have hJ4:=Qir hJ hj hx4;obtain⟨fn,tmps,assign,body,hy,hRr⟩:=hY (flC s half now pre) (⟨x.toArray⟩,m) W4 hJ4 Om)
    refine(Q9n hRr).mono ?_;rintro e W5 ⟨rfl,hJ5,hk5,hf5,hb5⟩
    gi_wp2
    exact⟨(Qjp hx4).trans (Qpv hf5 hx02.size),(Qh9 hx4).trans hk5,by rw[hsn,if_pos hpos];exact hJ5,hb5 _ _ ((hx4.block _ hy3.lt).trans hy3)⟩
  . gi_wp2_with (refine⟨trivial,?_⟩;gi_at_call 245;refine(CallsIn.inRound l2 (callsIn_wide.2 hat.2)).mono ?_;rintro e W4 ⟨v,rfl,rfl,hx4⟩)
    refine⟨fun _ h=>(by cases h),?_⟩
    gi_wp2
    exact⟨Qjp hx4,Qh9 hx4,by rw[hsn,if_neg Om,Zw];exact Qir hJ hj hx4,(hx4.block _ hy3.lt).trans hy3⟩
 case done =>
  rintro D xs W3 hD hS ⟨hj,_⟩ hK
  gi_wp2
  refine⟨by simp,.inl ⟨_,_,rfl,run_takeDeferred hK,?_⟩⟩;have hp:=hQ xs hS;rw[hLKk] at hp;exact⟨_,results_none rfl _ _ _,⟨_,rfl⟩,_,Xb7 hp,OwnFrom.putObj hJ _ hj (Zv hx02.size hD) hK rfl⟩
 case stop =>
  rintro D c pre W _ _ h _;exact h.elim
end Go.Proofs.YtpdonaienhociaaGreatDoor
namespace Go.Proofs.YtpdonaienhociaaGreatDoor
open Go.RowKit Go.Se
open Go.Maps Go.Sort Go.Shelf Go.WideElems
attribute [local go_sem] Oper.semAt_some
theorem Qxn (a b:Ct) (w:World):Cal Tryz.prog 215 [.agg (Qi3 a).toArray,.agg (Qi3 b).toArray] w fun r w'=>r = Vj (Q2q a b)/\Gr w w':=by
 refine Fi Tryz.func215 rfl _ rfl rfl (Hh ?_);intro b1 w1 hn1;refine Hh ?_;intro b2 w2 hn2;have h1:=hn1.At.ext hn2.ext;have h2:=hn2.At;have hx:=(Qae hn1).trans ((Qae hn2).trans (Gr.drew w2));refine Hh ?_;refine Dr .ext [0,1,2,3,5,6,7,8,4] [9,10,11,12] (Hh ?_);replace h1:At w2.drew b1 _ _:=h1;replace h2:At w2.drew b2 _ _:=h2;generalize w2.drew=w3 at h1 h2 hx ⊢;refine⟨_,h2.one rfl,Hh ?_⟩;refine⟨_,h1.one rfl,Hh ?_⟩;refine⟨_,h1.one rfl,Hh ?_⟩;refine⟨_,h2.one rfl,Hh ?_⟩;refine(Qfn _ _ _).mono ?_;rintro _ _ ⟨rfl,rfl⟩;refine⟨Ext.refl _,Hh ?_⟩;refine(Qac _ _ _).mono ?_;rintro _ _ ⟨rfl,rfl⟩;refine Hh ?_;intro b6 w6 hn6;refine Hh ?_;refine(Qen [Qcy b.2 a.2,Qch a.1 b.1] _ _ _ (Qak (enc:=Qfu) X4 hn6) (by simp)).mono ?_;rintro _ _ ⟨rfl,rfl⟩;refine Hh ?_;exact⟨rfl,hx.trans (Qae hn6)⟩
theorem Qwg (l:List Ct) (A:Option Addr) (c base:Nat) (w:World) (hown:Own Qi3 2 251 base w A c l) (hl:l.length<1000000) :
 Cal Tryz.prog 214 [.slice A l.length c,.func (.func 215) #[] #[]] w fun r w'=>r = .tuple #[]/\∃ F,F.Perm l/\Srt Qlm F/\Sl Qi3 2 w' A F/\∀ w0,Ext w0 w->w0.heap.size<=base->Ext w0 w':=by
 have:=Qf7 Tryz.sortCount (by decide) Tryz.isAgg251 Tryz.sizeOf251 Qml Qjf Q2q (by rw[Qkv];exact Qe6) ⟨_,Tryz.func214,rfl,rfl⟩ (enters_of Tryz.func215 Kr rfl) l A c base w hown hl (fun x y w' _=>Qxn x y w') (cb := #[]);rw[Qkv] at this;exact this
theorem Xgx:Tryz.prog.underlying 247=some (.slice 251):=by kernel_rfl
theorem Qul (x:List Ct) (A:Option Addr) (c:Nat) (w:World) (hs:Sl Qi3 2 w A x) (hl:x.length<1000000) :
 Cal Tryz.prog 216 [.slice A x.length c] w fun r w'=>∃ A' c',r = .slice A' x.length c'/\Own Qi3 2 251 w.heap.size w' A' c' x/\Ext w w':=by
 refine Fi Tryz.func216 rfl _ rfl rfl (Hh ?_);refine⟨_,X9 Xgx A _ _ _ _,Hh ?_⟩;constructor
 . intro h;obtain rfl:A=none:=Su h
   have hx:x = []:=by
    cases x with
    | nil=>rfl
    | cons e x=>obtain⟨a,ha,_⟩:=hs 0 e rfl;cases ha
   subst hx;refine Hh ?_;exact⟨none,0,rfl,Own.nil,Ext.refl _⟩
 . intro h;refine Hh ?_;intro b1 w1 hn1;refine Hh ?_;have o1:=Xdc.made (base:=w.heap.size) hn1 (Zg _);refine Qq Xdc (l := []) (news:=x) rfl o1 rfl (hs.ext hn1.ext) (by simp;omega) hn1.ext.size fun A2 c2 w2 hown2 hg2 hA2 => ?_
   have hx2:=Qu hn1.ext hg2 (Xq o1);rw[Zan] at hown2 ⊢;refine Hh ?_;exact⟨A2,c2,rfl,hown2,hx2⟩
theorem Quu (p:Nat) (now:Int) (w:World):Cal Tryz.prog 213 [Pj p,Vj now] w fun r w'=>r = .func (.func 290) #[] #[Pj w.heap.size,.pointer (some ⟨w.heap.size+1,0,none⟩)]/\w'.cell? ⟨w.heap.size,0,none⟩=some (Pj p)/\w'.cell? ⟨w.heap.size+1,0,none⟩=some (Vj now)/\Ext w w':=by
 refine Fi Tryz.func213 rfl _ rfl rfl (Hh ?_);intro b1 w1 hn1;refine Hh ?_;intro b2 w2 hn2;refine Hh ?_;have e1:=hn1.block;have e2:=hn2.block;have s1:=hn1.size;subst e1;have e2:b2=w.heap.size+1:=Om;subst e2;exact⟨rfl,(hn1.At.ext hn2.ext).one0,hn2.At.one0,hn1.ext.trans hn2.ext⟩
theorem Xht:(Tryz.prog.info? 251).map (fun i=>(i.zero,i.size,i.bytes))=some (some (.agg #[.string ⟨#[]⟩,Vj 0]),2,24):=by kernel_rfl
theorem Xf7 {α:Type} {enc:α->List Value} {sz:Nat} {te:TypeId} {base:Nat} {w:World} {A:Option Addr} {c:Nat} {l:List α} (h:Own enc sz te base w A c l):w.ownsRow base te sz (.slice A l.length c) l.length (l.flatMap enc):=by
 unfold Own at h;exact h
theorem Q9r {α:Type} {enc:α->List Value} {sz:Nat} {te:TypeId} {base:Nat} {w:World} {A:Option Addr} {c:Nat} {l:List α} (h:w.ownsRow base te sz (.slice A l.length c) l.length (l.flatMap enc)):Own enc sz te base w A c l:=by
 unfold Own;exact h
theorem Qpm.ext {w w1:World} {S:Nat->Prop} {p:Nat} {half n:Int} {s:Qld} (h:Qpm w S p half n s) (hx:Ext w w1):Qpm w1 S p half n s:=h.keep fun k hk hs=>⟨hx.block k hk,hs⟩
theorem Qlp {b1 b2 e size:Nat} {W:World} {v:Value} {n:Nat} {xs:List Value} (h:W.ownsRow b1 e size v n xs) (hb:b2<=b1):W.ownsRow b2 e size v n xs:=by
 refine⟨h.1,?_⟩;rcases h.2 with h2 | ⟨g,cap,cur,h2,h3,h4⟩
 . exact .inl h2
 . exact .inr ⟨g,cap,cur,h2,Om,h4⟩
theorem Q6s (w:World) (a b:Value) (t:TypeId):∀ (j:Nat) u,[a,b][j]? = some u->(w.alloc (.cells #[a,b] t)).cell? ((⟨w.heap.size,0,none⟩:Addr).add j)=some u:=by
 intro j u hj;have h:At (w.alloc (.cells #[a,b] t)) w.heap.size t [a,b]:=heap_alloc_new w _;rw[Q8,h.cell,hj]
theorem Sl.part {α:Type} {enc:α->List Value} {sz:Nat} {w:World} {A:Option Addr} {l:List α} (h:Sl enc sz w A l) (k:Nat):Sl enc sz w A (l.take k):=fun i x hi=>by
 rw[Zby] at hi;split at hi
 . exact h i x hi
 . cases hi
set_option maxRecDepth 100000 in
set_option maxHeartbeats 4000000 in
theorem Xdt (w:World) (S:Nat->Prop) (p:Nat) (half dn:Int) (s:Qld) (h:Qpm w S p half dn s) (now:Int) (hnow:0<=now/\now<=1099511627776) (n:Int) (hn:1<=n/\n<=9223372036854775807) (ht:∀ key r,Qe s key=some r->∀ x∈r,0<=x.1/\x.1<=1099511627776) (hk:∀ x∈s,x.1.size<=1000000) (hl:s.length<1000000) :
 Cal Tryz.prog 151 [Pj p,Vj now,Vj n] w fun r w'=>∃ A c,r = .slice A ((Qgk (Qg1 s half now)).take n.toNat).length c/\Sl Qi3 2 w' A ((Qgk (Qg1 s half now)).take n.toNat)/\(∀ a,A=some a->w.heap.size<=a.block)/\Ext w w':=by
 obtain⟨i0,hi,hz0,hz1,hz2⟩:=info_parts Xht;refine⟨⟨_,Tryz.func151,rfl,rfl⟩,?_⟩;refine(callsIn_wide (n:=7)).1 ?_;refine callsIn_of_wp_marks Tryz.func151 rfl trivial ?_ rfl;simp only[Tryz.ntmps151,Zbf,Z8,Zam,Nat.reduceAdd,Nat.reduceSub,Zcc,Zcd,Zc1,Zci,Zan,Zay];have hn0:¬ n<=0:=Om;have bL:=Boxed.new w 247 (.slice none 0 0);have hxL:Ext w (w.alloc (.cells #[.slice none 0 0] 247)):=(Below.refl _ _).alloc (Zg _) _
 gi_wp2_with (refine⟨trivial,?_⟩;gi_at_call 213;refine(callsIn_wide.2 (Quu p now _).2).mono ?_;rintro e w2 ⟨v,rfl,rfl,hc1,hc2,hx2⟩)
 replace hc1:w2.cell? ⟨w.heap.size+1,0,none⟩=some (Pj p):=Su hc1;replace hc2:w2.cell? ⟨w.heap.size+1+1,0,none⟩=some (Vj now):=Su hc2;have hx02:=hxL.trans hx2;have bL2:Boxed w2 w.heap.size 247 (.slice none 0 0):=(hx2.block _ bL.lt).trans bL
 refine Q88 (α:=Ct) (gf:=290) (lb := #[.pointer (some ⟨w.heap.size+1,0,none⟩),.pointer (some ⟨w.heap.size+1+1,0,none⟩)]) rfl (enters_of Tryz.func290 Kr rfl) (Qxp S p half dn s now hnow ht hk Om _ _ w2) (fun _=>rfl)
  (fun pre W'=>(∃ v,Boxed W' w.heap.size 247 v/\W'.ownsRow w2.heap.size 251 2 v pre.length (pre.flatMap Qi3)/\True)/\Ext w W'/\W'.cell? ⟨w.heap.size+1,0,none⟩=some (Pj p)/\W'.cell? ⟨w.heap.size+1+1,0,none⟩=some (Vj now)/\w2.heap.size<=W'.heap.size)
  (OwnFrom.and (Own.from (holdsRow_own (β:=List Ct) w2.heap.size w.heap.size 247 251 2 (fun pre=>pre.length) (fun pre=>pre.flatMap Qi3) fun _ _=>True) _) (OwnFrom.and (ownFrom_below (β:=List Ct) (Zg _) hx02.size) (OwnFrom.and (fun _ A B row hs hg hr=>cell_kept hs hg fun r e=>(hr r e).2) (OwnFrom.and (fun _ A B row hs hg hr=>cell_kept hs hg fun r e=>(hr r e).2) fun _ A B row hs hg hr=>Zv hs hg.size))))
  (fun pre W' hI=>⟨Qpm.ext h hI.2.1,hI.2.2.1,hI.2.2.2.1⟩)
  ⟨⟨_,bL2,World.ownsRow_nil _ _ _ _,trivial⟩,hx02,hc1,hc2,Zg _⟩
  (fun x=>{ tmps := #[Pj p,Vj now,Vj n,undef,undef,undef,.slice none 0 0,Pj w.heap.size,.string x.1,Vj x.2,Vj n,.bool false,Pj p,Vj now,.func (.func 290) #[] #[.pointer (some ⟨w.heap.size+1,0,none⟩),.pointer (some ⟨w.heap.size+1+1,0,none⟩)],.string x.1,Vj x.2,undef,undef,undef,undef,undef,undef,undef,undef,undef,undef,undef,undef,undef,undef,undef],defers := [] }) ?assign ?body ?done
 case assign =>
  intro l x W K hK
  gi_wp2
  exact hK
 case body =>
  rintro l pre x W3 ⟨⟨v,hv,hrow,_⟩,hx3,h1,h2,hsz⟩ hlt;have hc:=hv.cell;have hwl:=hv.lt;have s3:=hx3.size;have hfl:(pre ++ [x]).flatMap Qi3=pre.flatMap Qi3 ++ [.string x.1,Vj x.2]:=by rw[Zbr];rfl
  gi_wp2_with (gi_at_builtin;refine wpListIn_append_own _ rfl _ _ 247 rfl w2.heap.size 251 i0 (.agg #[.string ⟨#[]⟩,Vj 0]) 2 24 Tryz.underlying247 hi hz0 hz1 hz2 rfl (by decide) _ _ _ rfl (hrow.alloc _) ⟨W3.heap.size,0,none⟩ 1 1 [.string x.1,Vj x.2] rfl rfl (Q6s _ _ _ _) (by simp[Value.oneCell']) (by unfold maxLen;omega) Om (by simp;omega) ?_;intro v' w4 hown' hgrow _;obtain⟨g',cap',rfl⟩:=ownsRow_succ hown';obtain⟨hv1,hv2,hr2,hk2,hb2⟩:=hv.appended (by decide) (Qlp hrow hx02.size) s3 (Zg _) (Qlp hown' hx02.size) hgrow;have hc1:=hv1.cell;have hf1:=hv1.frozen)
  have hrb:∀ k,v.ownBlock=some k->w2.heap.size<=k:=fun k hk=>(hrow.lt k hk).1
  have hb2l:=cell_lt hc2;have hsame:∀ k,k<w2.heap.size->w4.heap[k]? = W3.heap[k]? := fun k hk=>(by refine(hgrow.block k (by simp;omega) fun e => ?_).trans (((Below.refl _ _).alloc (Zg _) _:Ext W3 _).block k Om);have:=hrb k e.symm;omega)
  have hg4:=hgrow.size;simp only[World.size_alloc] at hg4;refine⟨fun k u hb => ?_,⟨_,hv2,hown'.kept (grownBy_setCell' w4 w.heap.size _) (.inr (hv1.not_row (by decide) hown').symm)⟩,Below.trans hx3 hb2,?_,?_,Om⟩
  . have hne:k≠w.heap.size:=fun e=>(by subst e;have q1:W3.heap[w.heap.size]? = _:=hb;have q2:W3.heap[w.heap.size]? = _:=hv;rw[q1] at q2;simp at q2)
    exact Boxed.other ((hb.alloc _).kept hgrow (hb.not_row (by decide) hrow)) hne _
  . rw[World.cell?_of_block (w:=W3) (hsame _ (by simp only at hb2l ⊢;omega))];exact h1
  . rw[World.cell?_of_block (w:=W3) (hsame _ (by simp only at hb2l ⊢;omega))];exact h2
 case done =>
  rintro ys W3 hS ⟨⟨v,hv,hrow,_⟩,hx3,_,_,hsz⟩ hK;obtain⟨A,c,rfl,hown⟩:=Qcq (enc:=Qi3) (l:=ys) hrow rfl rfl;have hyl:ys.length<=s.length:=(by rw[hS.length_eq];unfold Qg1;refine Zv (Zc _ _) ?_;rw[Zf,Zf];exact Zg _)
  have hown1:Own Qi3 2 251 (w2.heap.size+1) W3 A c ys:=by
   refine Q9r ⟨hrow.1,?_⟩;rcases hrow.2 with h2 | ⟨g,cap,cur,h2,h3,h4,h5⟩
   . exact .inl h2
   . refine .inr ⟨g,cap,cur,h2,?_,h4,h5⟩;rcases Zb5 w2.heap.size g with q | q
     . exact q
     . obtain rfl:g=w2.heap.size:=Om;rw[hK] at h4;cases h4
  have hc:=hv.cell;have hwl:w.heap.size<w2.heap.size:=Zal (Nat.lt_succ_self _) (by have:=cell_lt hc2;simp only at this;omega)
  gi_wp2_with (refine⟨trivial,?_⟩;gi_at_call 214;refine(callsIn_wide.2 (Qwg ys A c (w2.heap.size+1) W3 hown1 Om).2).mono ?_;rintro e w5 ⟨v5,rfl,rfl,F,hFp,hFs,hFsl,hfr⟩;have hk5:∀ k,k<=w2.heap.size->w5.heap[k]? = W3.heap[k]? := (fun k hk=>by
   have q0:(W3.heap.extract 0 (w2.heap.size+1)).size=w2.heap.size+1:=by simp;have:=Qgi hK;omega
   have q1:Ext { W3 with heap:=W3.heap.extract 0 (w2.heap.size+1) } W3:=⟨rfl,rfl,rfl,by show (W3.heap.extract 0 (w2.heap.size+1)).size<=_;rw[q0];exact Qgi hK,fun i hi=>by
    have hi:i<(W3.heap.extract 0 (w2.heap.size+1)).size:=hi;show W3.heap[i]? = (W3.heap.extract 0 (w2.heap.size+1))[i]?
    rw[Array.getElem?_extract];rw[q0] at hi;simp[hi];omega⟩
   have q2:=(hfr _ q1 (Nat.le_of_eq q0)).block k (by show k<(W3.heap.extract 0 (w2.heap.size+1)).size;rw[q0];omega);exact q2.trans (q1.block k (by show k<(W3.heap.extract 0 (w2.heap.size+1)).size;rw[q0];omega)).symm);have hK5:=(hk5 _ (Zg _)).trans hK;have hv5:Boxed w5 w.heap.size 247 (.slice A ys.length c):=(hk5 _ Om).trans hv;have hc5:=hv5.cell)
  . rename_i hb _ happ;have hFl:F.length=ys.length:=hFp.length_eq;have hFeq:F=Qgk (Qg1 s half now):=Qth (hFp.trans hS) hFs;obtain⟨m,hm⟩:∃ m,m=(min n (ys.length:Int)).toNat:=⟨_,rfl⟩;have hml:(F.take n.toNat).length=m:=(by rw[Zn];omega);have s5:w2.heap.size<w5.heap.size:=Qgi hK5;rw[<- hm,<- hml];refine⟨trivial,?_⟩
    gi_at_call 216
    refine(callsIn_wide.2 (Qul (F.take n.toNat) A c w5 (hFsl.part _) Om).2).mono ?_;rintro e w6 ⟨v6,rfl,A6,c6,rfl,hown6,hx6⟩;refine happ _ _ ?_
    gi_wp2
    have hx5:=hfr w hx3 Om;have hK6:=(hx6.block _ s5).trans hK5;refine⟨by simp,.inl ⟨_,_,rfl,run_takeDeferred hK6,?_⟩⟩;rw[<- hFeq];have ho:=Q9r (l:=F.take n.toNat) (ownsRow_putObj (Xf7 hown6) (.deferred none) hK6 rfl);exact⟨_,results_tmp rfl _ _ _,_,rfl,A6,c6,rfl,ho.sl Qml,fun a ha=>Zv hx5.size (Xq hown6 _ (by rw[ha];rfl)),Below.trans (hx5.trans hx6) (belowK_b (w:=w) (Zg _) w6 w2.heap.size _ _ Om hK6 rfl rfl)⟩
  case isFalse hb =>
   exfalso;apply hb;have:=hown.le;omega
