import Derived.RangeFuncWrites
import Derived.Shelf.SlIter.Stops
import Derived.Shelf.RegionOpen
import Derived.RangeFuncCalls
import Derived.RangeFuncNested
import Derived.Test.YtnpacgccajekgaaGreatDoorGXB
set_option linter.all false
namespace Go.Proofs.YtnpacgccajekgaaGreatDoor
open Go.RowKit Go.Se
def Qbk(a:TypeId)(W b:World):Prop:=∀k v,Boxed W k a v->Boxed b k a v
theorem Qbk.refl(a W):Qbk a W W:=fun _ _ h=>h
theorem Qbk.trans{a A B C}(h:Qbk a A B)(k:Qbk a B C):Qbk a A C:=fun b v c=>k b v (h b v c)
theorem Qbk.ext{b A B}(h:Ext A B):Qbk b A B:=fun _ _ a=>(h.block _ a.lt).trans a
theorem Qbk.putObj{f W l o}(d)(h:W.heap[l]?=some o)(c:o.isCells=false):Qbk f W (W.putObj l d):=fun k v a=>by
 refine(World.putObj_heap_other fun e=>?_).trans a;subst e;have b:W.heap[k]?=_:=a;rw[h]at b;cases b;cases c
theorem Qg2{B W l}(b)(d:l<B):KeepsFrom B W (W.putObj l b):=⟨by simp,fun k e c a _=>(World.putObj_heap_other Om).trans a⟩
def Xna{α:Type}(n:Nat)(P:Program)(g:Nat)(lb:Array Value)(h:α->Array Value)(S:List α->Prop)(N:Nat)(i:TypeId)(Rd:World->Prop)(w:World):Prop:=
 ∀(d:Nat) (b:List α->World->Prop) (W:World),Below w.heap.size w W->OwnFrom W.heap.size b->(∀pre a,b pre a->Rd a) ->
  (∀pre x a,b pre a->pre.length<N->YieldAt Fence.wide (n-1) P d (h x) a fun e c=>e=.returned (.bool true)/\b (pre++[x]) c/\KeepsWalks a c/\KeepsFrom W.heap.size a c/\Qbk i a c) ->
  b [] W->CallsIn Fence.wide n P g (#[.func (.yield d) #[] #[]]++lb) W fun e c=>(∃v,e=.returned v)/\∃f,S f/\b f c
theorem Qoy{A B:World}{row k}(a:A.grownBy B row)(b:k<A.heap.size)(c:∀r,row=some r->r≠k):B.heap[k]?=A.heap[k]? :=
 a.block k b fun e=>c k e.symm rfl
theorem Qgt{W:World}{k o}(h:W.heap[k]?=some o):k<W.heap.size:=(Array.getElem?_eq_some_iff.1 h).1
theorem Xbs{α:Type}{P:Program}{n:Nat}{g:Operand}{ps:Array Tmp}{assign body:Code}{Q:Exit->Act->World->Prop}{a:Act}{w:World}{gf:Nat}{lb:Array Value}
 (hg:a.eval g=.func (.func gf) #[] lb)(eg:∀args w,(callFunc gf args).run P w=.ok (.enter gf args) w){encs:α->Array Value}{S:List α->Prop}{N:Nat}{tf:TypeId}{Rd:World->Prop}
 (hseq:Xna (n-1) P gf lb encs S N tf Rd w)(hps:∀x,(encs x).size=ps.size)(I:List α->World->Prop)(hI:OwnFrom w.heap.size I)(hRd:∀pre W,I pre W->Rd W)(h0:I [] w)(a1:α->Act)
 (hassign:∀(l:Nat) (x:α) (W:World) (K:Act->World->Prop),K (a1 x) W->assign.wpIn (Fence.wide.inRound l) (n-1-1) P (Exit.then K (fun _ _ _=>False)) { tmps:=(ps.zip (encs x)).foldl (fun t (p,v)=>t.setIfInBounds p v) a.tmps,defers:= [] } W)
 (hbody:∀(l:Nat) (pre:List α) (x:α) (W:World),I pre W->pre.length<N->body.wpIn (Fence.wide.inRound l) (n-1-1) P (fun e _ W'=>e=.normal/\KeepsOthers W W'/\Qbk tf W W'/\I (pre++[x]) W') (a1 x) W)
 (hdone:∀(xs:List α) (W:World),S xs->I xs W->W.heap[w.heap.size]?=some (.deferred (some []))->Q .normal { a with defers:={ target:= .collected w.heap.size,args:= #[] }::a.defers } W) :
 (Code.rangeFunc g ps assign body).wpIn Fence.wide n P Q a w:=by
 refine wpIn_rangeFunc fun fn hfn=>?_
 rw[show Fence.wide.round=none from rfl];obtain⟨rec,hrec⟩:∃rec:LoopState->Loop,rec=fun st=>{ state:=st,pending:=none,fn,tmps:=a.tmps,params:=ps,assign,body,defers:=w.heap.size }:=⟨_,rfl⟩
 have hst:∀st,(rec st).state=st:=fun st=>by rw[hrec]
 obtain⟨W1,hW1⟩:∃W1,(w.alloc (.deferred (some []))).alloc (.loop (rec .ready))=W1:=⟨_,rfl⟩;have z1:W1.heap.size=w.heap.size+2:=by rw[<- hW1];simp
 have hL:W1.heap[w.heap.size+1]?=some (.loop (rec .ready)):=by
  rw[<- hW1];have:=World.alloc_heap_new (w.alloc (.deferred (some []))) (.loop (rec .ready))
  rwa [World.size_alloc]at this
 have hD:W1.heap[w.heap.size]?=some (.deferred (some [])):=(by rw[<- hW1];exact(Below.heap_alloc _ _ _ (by simp)).trans (World.alloc_heap_new w _));have hb1:Below w.heap.size w W1:=(by rw[<- hW1];exact((Below.refl _ w).alloc (Zf _) _).alloc (by simp) _);have h1:I [] W1:=by rw[<- hW1];exact hI.alloc _ (hI.alloc _ h0)
 refine⟨w.heap.size+1,[{ target:= .collected w.heap.size,args:= #[] }],W1,{ target:= .fn (.func gf) lb,args:= #[.func (.yield (w.heap.size+1)) #[] #[]] },W1,gf,#[.func (.yield (w.heap.size+1)) #[] #[]]++lb,W1,?_,?_,?_,?_,?_,?_⟩
 .rw[<- hW1,hrec];exact run_enterLoop_outer _ _ _ _ _
 .simp only[resolve,hg];simp[go_sem]
 .intro _ _;trivial
 .simp[invoke,go_sem,eg]
 .intro h;cases h
 refine(hseq (w.heap.size+1) (fun pre W=>I pre W/\W.heap[w.heap.size+1]?=some (.loop (rec .ready))/\W.heap[w.heap.size]?=some (.deferred (some []))) W1 hb1 ?_ (fun pre W h=>hRd pre W h.1) ?_ ⟨h1,hL,hD⟩).mono ?_
 .rintro s A B row ⟨hi,hl,hd⟩ hg' hr;refine⟨hI s A B row hi hg' fun r e=>⟨by have:=(hr r e).1;omega,(hr r e).2⟩,?_,?_⟩
  .rw[Qoy hg' (Qgt hl) fun r e=>by have:=(hr r e).1;omega];exact hl
  .rw[Qoy hg' (Qgt hd) fun r e=>by have:=(hr r e).1;omega];exact hd
 .rintro pre x W ⟨hi,hl,hd⟩ hlen;have hy:=run_yield (P:=P) (args:=encs x) hl (by rw[hrec];exact hps x);rw[hrec]at hy;refine⟨fn,_,assign,body,hy,roundIn_of_wpIn hfn (hassign _ x W _ ⟨_,run_beginRound hl (hst _),?_⟩)⟩;have hlt:=Qgt hl;obtain⟨W2,hW2⟩:∃W2,W.putObj (w.heap.size+1) (.loop { rec .ready with state:= .busy })=W2:=⟨_,rfl⟩;have hl2:W2.heap[w.heap.size+1]?=some (.loop { rec .ready with state:= .busy }):=by rw[<- hW2];exact World.putObj_heap_same hlt
  have hd2:W2.heap[w.heap.size]?=some (.deferred (some [])):=by rw[<- hW2];exact(World.putObj_heap_other Om).trans hd
  have hk2:KeepsWalks W W2:=by rw[<- hW2];exact KeepsWalks.putObj _ hl rfl
  have hf2:KeepsFrom W1.heap.size W W2:=by rw[<- hW2];exact Qg2 _ Om
  have hx2:Qbk tf W W2:=by rw[<- hW2];exact Qbk.putObj _ hl rfl
  have hi2:I pre W2:=by rw[<- hW2];exact hI.putObj _ hi Om hl rfl
  rw[hW2];refine wpIn_mono (hbody _ pre x W2 hi2 hlen) ?_;rintro e a3 W3 ⟨rfl,hk3,hb3,hi3⟩;have hl3:=hk3.same _ _ hl2 rfl;have hd3:=hk3.same _ _ hd2 rfl;have hr3:=run_endRound (P:=P) none hl3;refine⟨_,_,hr3,rfl,⟨hI.putObj _ hi3 Om hl3 rfl,?_,(World.putObj_heap_other Om).trans hd3⟩,(hk2.trans hk3.walks).trans (KeepsWalks.putObj _ hl3 rfl),(hf2.trans (hk3.from _)).trans (Qg2 _ Om),(hx2.trans hb3).trans (Qbk.putObj _ hl3 rfl)⟩;rw[World.putObj_heap_same (Qgt hl3),hrec];rfl
 .rintro e W2 ⟨⟨v,rfl⟩,xs,hS,hi,hl,hd⟩;have hend:=run_endLoop (P:=P) hl (by rw[hst];simp);refine⟨none,_,by rw[hend,hrec],?_⟩;exact hdone xs _ hS (hI.putObj _ hi Om hl rfl) ((World.putObj_heap_other Om).trans hd)
open Go.Maps Go.Sort Go.Shelf Go.WideElems
attribute [local go_sem] Oper.semAt_some
theorem Qz0{P d}(K:SlLaysZ.n10 P d){w c b}{L:List (Bj×Value)}(g:w.cell? ⟨c,0,none⟩=some (.map (some b)))(m:MapAt w b Value.string L)(j:∀x∈L,x.1.size<=1000000)(l:L.length<=1000000000)(n)(o:1<=n) :
 ∃Q i,(∀ss:List (List UInt8),Q ss->ss.Perm ((L.map (·.1)).map fun x=>x.data.toList))/\SeqStopsK Fence.wide n P (d.f 10) #[Pj c] (fun x=>#[encStr x]) KeepsWalks Q i L.length w:=by
 obtain⟨es,r,h⟩:=Qtl (P:=P) (k:=d.t 26) m (fun a b e=>Su e) (fun x=>.string x.data.toList) (fun x hx=>Go.WideMaps.keyOf_string_mk K.t26 (by have:=j x hx;unfold maxLen;omega)) l;have u:Maps.size (.map es)=L.length:=(by have:=h.length_eq;simp at this;simpa [Maps.size] using this);refine⟨_,_,fun ss s=>?_,u▸AnyZ.keys_stops K Fence.wide n trivial rfl o c b _ _ w (cell_lt g) g r⟩;refine s.1.trans ?_;simp only[strKeys];refine(h.map _).trans ?_;rw[Zz,Zz];exact Za9 _
theorem Q9q{A B}(h:Ext A B):A.grownBy B none:=⟨h.os,h.tape,h.output,h.size,fun k a _=>h.block k a⟩
theorem Qjl{β:Type}{B a}(h:OwnFrom B a){s:β}{W b}(c:a s W)(hx:Ext W b):a s b:=h s W b none c (Q9q hx) fun d e=>by cases e
theorem Qiy{A B}(h:Ext A B):KeepsWalks A B:=⟨h.size,fun k b a _=>(h.block k (Qgt a)).trans a⟩
theorem Qkf{N A B}(h:Ext A B):KeepsFrom N A B:=⟨h.size,fun k b _ a _=>(h.block k (Qgt a)).trans a⟩
theorem Qqy{N M A B}(h:KeepsFrom N A B)(a:N<=M):KeepsFrom M A B:=⟨h.size,fun k c b=>h.same k c (Zw a b)⟩
theorem Xb7{n m k l P f tmps assign a w R}(h:RoundIn Fence.wide n P l f tmps assign a w R):RoundIn (Fence.wide.inRound k) m P l f tmps assign a w R:=⟨h.1,fun c cs _=>h.2 c cs fun d b=>by cases b⟩
structure RdC(S:Nat->Prop)(p:Nat)(half dn:Int)(s:Qmb)(now:Int)(bc bn:Nat)(W:World):Prop where
 ct:Qqr W S p half dn s
 bc:W.cell? ⟨bc,0,none⟩=some (Pj p)
 bn:W.cell? ⟨bn,0,none⟩=some (Vj now)
def flC(s:Qmb)(half now:Int)(pre:List (List UInt8)):List Ct:=((pre.map fun x=>(⟨x.toArray⟩:Bj)).map fun k=>(k,Qb6 s half k now)).filter fun x=>decide (0<x.2)
theorem Xez(s half now pre x):flC s half now (pre++[x])=flC s half now pre++if 0<Qb6 s half ⟨x.toArray⟩ now then [(⟨x.toArray⟩,Qb6 s half ⟨x.toArray⟩ now)] else []:=by
 unfold flC;rw[Zp,Zp,Zq];congr 1
 by_cases h:0<Qb6 s half ⟨x.toArray⟩ now
 .simp[h]
 .simp[h]
theorem Xey{s half now ss}(h:ss.Perm ((s.map (·.1)).map fun x=>x.data.toList)):(flC s half now ss).Perm (Qhe s half now):=by
 unfold flC Qhe;refine List.Perm.filter _ (List.Perm.map _ ?_);have:=h.map fun x=>(⟨x.toArray⟩:Bj)
 rw[Zz]at this;refine this.trans ?_;rw[show ((fun x:List UInt8=>(⟨x.toArray⟩:Bj))∘fun x:Bj=>x.data.toList)=id from funext fun x=>rfl,List.map_id]
theorem Xi4(s half now pre):(flC s half now pre).length<=pre.length:=by
 unfold flC;have:=Zc (fun x:Ct=>decide (0<x.2)) ((pre.map fun x=>(⟨x.toArray⟩:Bj)).map fun k=>(k,Qb6 s half k now));simpa using this
set_option maxRecDepth 100000 in
set_option maxHeartbeats 4000000 in
theorem Qy8(S p half dn)(s:Qmb)(now)(hnow:0<=now/\now<=1099511627776)(ht:∀key r,Qe s key=some r->∀x∈r,0<=x.1/\x.1<=1099511627776)(hk:∀x∈s,x.1.size<=1000000)(hl:s.length<=1000000)(bc bn w) :
 Xna 6 Tryz.prog 349 #[Pj bc,Pj bn] (fun x:Ct=>#[.string x.1,Vj x.2]) (fun xs=>xs.Perm (Qhe s half now)) s.length 362 (RdC S p half dn s now bc bn) w:=by
 intro l J W hW hJ hR hY h0;have hrd:=hR [] W h0;refine callsIn_of_wp_marks Tryz.func349 rfl trivial ?_ rfl;simp only[Tryz.ntmps349,Za4,Zx,Zae,Nat.reduceAdd,Nat.reduceSub,Zcm,Zcn,Zdb,Zcr,Zah,Za1];have cy:(W.alloc (.cells #[.func (.yield l) #[] #[]] 362)).cell? ⟨W.heap.size,0,none⟩=some (.func (.yield l) #[] #[]):=Qt1 _ _ _;have hxa:Ext W (W.alloc (.cells #[.func (.yield l) #[] #[]] 362)):=(Below.refl _ _).alloc (Zf _) _;have hya:Boxed (W.alloc (.cells #[.func (.yield l) #[] #[]] 362)) W.heap.size 362 (.func (.yield l) #[] #[]):=Boxed.new _ _ _;have cc:=hxa.cell hrd.bc;have cn:=hxa.cell hrd.bn;obtain⟨bm,hct⟩:=hrd.ct
 have cs:(W.alloc (.cells #[.func (.yield l) #[] #[]] 362)).cell? ⟨p,2,none⟩=some (.map (some bm)):=by
  have:=hxa.cell (hct.head.one (k:=2) (v:= .map (some bm)) rfl)
  rwa [Q7]at this
 gi_wp2_with (refine⟨trivial,?_⟩;gi_at_call 350;refine(callsIn_wide.2 (Qf8 Tryz.keys350 ⟨_,Tryz.func350,rfl,rfl⟩ (some bm) _).2).mono ?_;rintro e w2 ⟨v,rfl,rfl,hcell,hx2⟩)
 replace hcell:w2.cell? ⟨W.heap.size+1,0,none⟩=some (.map (some bm)):=Su hcell;have hx02:=hxa.trans hx2;have hy2:Boxed w2 W.heap.size 362 (.func (.yield l) #[] #[]):=(hx2.block _ hya.lt).trans hya;obtain⟨LK,hLK,hLKk⟩:=Qx7 hct.sums;have hLl:LK.length=s.length:=by have:=congrArg List.length hLKk;simpa using this
 obtain⟨Q,Sp,hQ,hseq⟩:=Qz0 { Tryz.keys350 with } hcell (hLK.ext hx02) (fun x hx=>by
  have:x.1∈s.map (·.1):=by rw[<- hLKk];exact Zh.2 ⟨x,hx,rfl⟩
  obtain⟨y,hy,he⟩:=Zh.1 this;rw[<- he];exact hk y hy) Om 5 Om
 refine wpIn_rangeFunc_ownG (α:=List UInt8) rfl Om (gf:=381) (lb:= #[.pointer (some ⟨W.heap.size+1,0,none⟩)]) rfl trivial (enters_of Tryz.func381 Kr rfl) hseq walksK_t walksK_b (Below.refl _ _) (fun _=>rfl)
  (fun pre W'=>J (flC s half now pre) W'/\Boxed W' W.heap.size 362 (.func (.yield l) #[] #[])) (fun _ _ _=>False)
  (OwnFrom.and (fun pre A B row hs hg hr=>hJ (flC s half now pre) A B row hs hg fun r e=>⟨Zw hx02.size (hr r e).1,(hr r e).2⟩) (Own.from (boxed_own (β:=List (List UInt8)) W.heap.size 362 fun _=>.func (.yield l) #[] #[]) _))
  (fun _ _ _ _ _ hs _ _=>hs) ⟨Qjl hJ h0 hx02,hy2⟩
  (fun x=>{ tmps:= #[.func (.yield l) #[] #[],Pj bc,Pj bn,Pj W.heap.size,.string ⟨x.toArray⟩,undef,Pj p,Pj p,.pointer (some ⟨p,2,none⟩),.map (some bm),.func (.func 381) #[] #[.pointer (some ⟨W.heap.size+1,0,none⟩)],.string ⟨x.toArray⟩,undef,undef,undef,undef,undef,undef,undef,undef,undef,undef,undef,undef,undef],defers:= [] }) ?assign ?body ?done ?stop
 case assign =>
  intro l x W K hK
  gi_wp2
  exact hK
 case body =>
  rintro l2 pre x W3 ⟨hj,hy3⟩ hlt;have hrd3:=hR _ _ hj;have c1:=hrd3.bc;have c2:=hrd3.bn;have c3:=hy3.cell;have hat:=Qrj W3 S p half dn s hrd3.ct ⟨x.toArray⟩ now hnow (ht _);have hsn:=Xez s half now pre x;have hfl:=Xi4 s half now pre;generalize Qb6 s half ⟨x.toArray⟩ now=m at hat hsn
  by_cases hpos:0<m
  .gi_wp2_with (refine⟨trivial,?_⟩;gi_at_call 327;refine(CallsIn.inRound l2 (callsIn_wide.2 hat.2)).mono ?_;rintro e W4 ⟨v,rfl,rfl,hx4⟩;have c4:=hx4.cell c3;have hJ4:=Qjl hJ hj hx4;obtain⟨fn,tmps,assign,body,hy,hRr⟩:=hY (flC s half now pre) (⟨x.toArray⟩,m) W4 hJ4 Om)
   refine(Xb7 hRr).mono ?_;rintro e W5 ⟨rfl,hJ5,hk5,hf5,hb5⟩
   gi_wp2
   exact⟨(Qkf hx4).trans (Qqy hf5 hx02.size),(Qiy hx4).trans hk5,by rw[hsn,if_pos hpos];exact hJ5,hb5 _ _ ((hx4.block _ hy3.lt).trans hy3)⟩
  .gi_wp2_with (refine⟨trivial,?_⟩;gi_at_call 327;refine(CallsIn.inRound l2 (callsIn_wide.2 hat.2)).mono ?_;rintro e W4 ⟨v,rfl,rfl,hx4⟩)
   refine⟨fun _ h=>(by cases h),?_⟩
   gi_wp2
   exact⟨Qkf hx4,Qiy hx4,by rw[hsn,if_neg Om,Z4];exact Qjl hJ hj hx4,(hx4.block _ hy3.lt).trans hy3⟩
 case done =>
  rintro D xs W3 hD hS ⟨hj,_⟩ hK
  gi_wp2
  refine⟨by simp,.inl ⟨_,_,rfl,run_takeDeferred hK,?_⟩⟩;have hp:=hQ xs hS;rw[hLKk]at hp;exact⟨_,results_none rfl _ _ _,⟨_,rfl⟩,_,Xey hp,OwnFrom.putObj hJ _ hj (Zw hx02.size hD) hK rfl⟩
 case stop =>
  rintro D c pre W _ _ h _;exact h.elim
end Go.Proofs.YtnpacgccajekgaaGreatDoor
namespace Go.Proofs.YtnpacgccajekgaaGreatDoor
open Go.RowKit Go.Se
open Go.Maps Go.Sort Go.Shelf Go.WideElems
attribute [local go_sem] Oper.semAt_some
theorem Qy6(a b w):Cal Tryz.prog 300 [.agg (Qjv a).toArray,.agg (Qjv b).toArray] w fun r w'=>r=Vj (Q4l a b)/\Gr w w':=by
 refine Fi Tryz.func300 rfl _ rfl rfl (Hh ?_);intro i l g;refine Hh ?_;intro j e f;have c:=g.At.ext f.ext;have d:=f.At;have hx:=(Qam g).trans ((Qam f).trans (Gr.drew e));refine Hh ?_;refine Dr .ext [0,1,2,3,5,6,7,8,4] [9,10,11,12] (Hh ?_);replace c:At e.drew i _ _:=c;replace d:At e.drew j _ _:=d;generalize e.drew=m at c d hx⊢;refine⟨_,d.one rfl,Hh ?_⟩;refine⟨_,c.one rfl,Hh ?_⟩;refine⟨_,c.one rfl,Hh ?_⟩;refine⟨_,d.one rfl,Hh ?_⟩;refine(Qfy _ _ _).mono ?_;rintro _ _ ⟨rfl,rfl⟩;refine⟨Ext.refl _,Hh ?_⟩;refine(Qaj _ _ _).mono ?_;rintro _ _ ⟨rfl,rfl⟩;refine Hh ?_;intro k n h;refine Hh ?_;refine(Qex [Qc5 b.2 a.2,Qcp a.1 b.1] _ _ _ (Qai (enc:=Qf7) X8 h) (by simp)).mono ?_;rintro _ _ ⟨rfl,rfl⟩;refine Hh ?_;exact⟨rfl,hx.trans (Qam h)⟩
theorem Qxw(l A c base w)(d:Own Qjv 2 345 base w A c l)(b:l.length<1000000) :
 Cal Tryz.prog 299 [.slice A l.length c,.func (.func 300) #[] #[]] w fun r w'=>r=.tuple #[]/\∃F,F.Perm l/\Srt Qmm F/\Sl Qjv 2 w' A F/\∀a,Ext a w->a.heap.size<=base->Ext a w':=by
 have:=Qgh Tryz.sortCount (by decide) Tryz.isAgg345 Tryz.sizeOf345 Qnl Qj7 Q4l (by rw[Qlt];exact Qfd) ⟨_,Tryz.func299,rfl,rfl⟩ (enters_of Tryz.func300 Kr rfl) l A c base w d b (fun x y w' _=>Qy6 x y w') (cb:= #[]);rw[Qlt]at this;exact this
theorem Xkj:Tryz.prog.underlying 341=some (.slice 345):=by kernel_rfl
theorem Qv0(x A c w)(i:Sl Qjv 2 w A x)(y:x.length<1000000) :
 Cal Tryz.prog 301 [.slice A x.length c] w fun r w'=>∃d f,r=.slice d x.length f/\Own Qjv 2 345 w.heap.size w' d f x/\Ext w w':=by
 refine Fi Tryz.func301 rfl _ rfl rfl (Hh ?_);refine⟨_,X4 Xkj A _ _ _ _,Hh ?_⟩;constructor
 .intro h;obtain rfl:A=none:=Su h
  have hx:x=[]:=by
   cases x with
   |nil=>rfl
   |cons e x=>obtain⟨a,n,_⟩:=i 0 e rfl;cases n
  subst hx;refine Hh ?_;exact⟨none,0,rfl,Own.nil,Ext.refl _⟩
 .intro h;refine Hh ?_;intro u z b;refine Hh ?_;have j:=Xga.made (base:=w.heap.size) b (Zf _);refine Qq Xga (l:= []) (news:=x) rfl j rfl (i.ext b.ext) (by simp;omega) b.ext.size fun k m B g o v=>?_
  have s:=Qu b.ext o (Xm j);rw[Zah]at g⊢;refine Hh ?_;exact⟨k,m,rfl,g,s⟩
theorem Qwa(p now w):Cal Tryz.prog 298 [Pj p,Vj now] w fun r w'=>r=.func (.func 349) #[] #[Pj w.heap.size,.pointer (some ⟨w.heap.size+1,0,none⟩)]/\w'.cell? ⟨w.heap.size,0,none⟩=some (Pj p)/\w'.cell? ⟨w.heap.size+1,0,none⟩=some (Vj now)/\Ext w w':=by
 refine Fi Tryz.func298 rfl _ rfl rfl (Hh ?_);intro f h a;refine Hh ?_;intro d i b;refine Hh ?_;have e:=a.block;have c:=b.block;have g:=a.size;subst e;have c:d=w.heap.size+1:=Om;subst c;exact⟨rfl,(a.At.ext b.ext).one0,b.At.one0,a.ext.trans b.ext⟩
theorem Xlc:(Tryz.prog.info? 345).map (fun i=>(i.zero,i.size,i.bytes))=some (some (.agg #[.string ⟨#[]⟩,Vj 0]),2,24):=by kernel_rfl
theorem Xjr{α:Type}{enc sz a base w A c}{l:List α}(h:Own enc sz a base w A c l):w.ownsRow base a sz (.slice A l.length c) l.length (l.flatMap enc):=by
 unfold Own at h;exact h
theorem Xca{α:Type}{enc sz a base w A c}{l:List α}(h:w.ownsRow base a sz (.slice A l.length c) l.length (l.flatMap enc)):Own enc sz a base w A c l:=by
 unfold Own;exact h
theorem Qqr.ext{w w1 S p half n s}(h:Qqr w S p half n s)(hx:Ext w w1):Qqr w1 S p half n s:=h.keep fun k a b=>⟨hx.block k a,b⟩
theorem Qmp{b1 b2 e size:Nat}{W:World}{v n xs}(h:W.ownsRow b1 e size v n xs)(f:b2<=b1):W.ownsRow b2 e size v n xs:=by
 refine⟨h.1,?_⟩;rcases h.2 with a|⟨g,cap,b,a,d,c⟩
 .exact .inl a
 .exact .inr ⟨g,cap,b,a,Om,c⟩
theorem Q8t(w:World)(a b t):∀(j:Nat) u,[a,b][j]?=some u->(w.alloc (.cells #[a,b] t)).cell? ((⟨w.heap.size,0,none⟩:Addr).add j)=some u:=by
 intro j u c;have h:At (w.alloc (.cells #[a,b] t)) w.heap.size t [a,b]:=heap_alloc_new w _;rw[Q7,h.cell,c]
theorem Sl.part{α:Type}{enc sz w A}{l:List α}(h:Sl enc sz w A l)(k):Sl enc sz w A (l.take k):=fun b x a=>by
 rw[Zbm]at a;split at a
 .exact h b x a
 .cases a
set_option maxRecDepth 100000 in
set_option maxHeartbeats 4000000 in
theorem Xgt(w S p half dn s)(h:Qqr w S p half dn s)(now)(hnow:0<=now/\now<=1099511627776)(n)(hn:1<=n/\n<=9223372036854775807)(ht:∀key r,Qe s key=some r->∀x∈r,0<=x.1/\x.1<=1099511627776)(hk:∀x∈s,x.1.size<=1000000)(hl:s.length<1000000) :
 Cal Tryz.prog 231 [Pj p,Vj now,Vj n] w fun r w'=>∃A c,r=.slice A ((Qgy (Qhe s half now)).take n.toNat).length c/\Sl Qjv 2 w' A ((Qgy (Qhe s half now)).take n.toNat)/\(∀a,A=some a->w.heap.size<=a.block)/\Ext w w':=by
 obtain⟨i0,hi,hz0,hz1,hz2⟩:=info_parts Xlc;refine⟨⟨_,Tryz.func231,rfl,rfl⟩,?_⟩;refine(callsIn_wide (n:=7)).1 ?_;refine callsIn_of_wp_marks Tryz.func231 rfl trivial ?_ rfl;simp only[Tryz.ntmps231,Za4,Zx,Zae,Nat.reduceAdd,Nat.reduceSub,Zcm,Zcn,Zdb,Zcr,Zah,Za1];have hn0:¬n<=0:=Om;have bL:=Boxed.new w 341 (.slice none 0 0);have hxL:Ext w (w.alloc (.cells #[.slice none 0 0] 341)):=(Below.refl _ _).alloc (Zf _) _
 gi_wp2_with (refine⟨trivial,?_⟩;gi_at_call 298;refine(callsIn_wide.2 (Qwa p now _).2).mono ?_;rintro e w2 ⟨v,rfl,rfl,hc1,hc2,hx2⟩)
 replace hc1:w2.cell? ⟨w.heap.size+1,0,none⟩=some (Pj p):=Su hc1;replace hc2:w2.cell? ⟨w.heap.size+1+1,0,none⟩=some (Vj now):=Su hc2;have hx02:=hxL.trans hx2;have bL2:Boxed w2 w.heap.size 341 (.slice none 0 0):=(hx2.block _ bL.lt).trans bL
 refine Xbs (α:=Ct) (gf:=349) (lb:= #[.pointer (some ⟨w.heap.size+1,0,none⟩),.pointer (some ⟨w.heap.size+1+1,0,none⟩)]) rfl (enters_of Tryz.func349 Kr rfl) (Qy8 S p half dn s now hnow ht hk Om _ _ w2) (fun _=>rfl)
  (fun pre W'=>(∃v,Boxed W' w.heap.size 341 v/\W'.ownsRow w2.heap.size 345 2 v pre.length (pre.flatMap Qjv)/\True)/\Ext w W'/\W'.cell? ⟨w.heap.size+1,0,none⟩=some (Pj p)/\W'.cell? ⟨w.heap.size+1+1,0,none⟩=some (Vj now)/\w2.heap.size<=W'.heap.size)
  (OwnFrom.and (Own.from (holdsRow_own (β:=List Ct) w2.heap.size w.heap.size 341 345 2 (fun pre=>pre.length) (fun pre=>pre.flatMap Qjv) fun _ _=>True) _) (OwnFrom.and (ownFrom_below (β:=List Ct) (Zf _) hx02.size) (OwnFrom.and (fun _ A B row hs hg hr=>cell_kept hs hg fun r e=>(hr r e).2) (OwnFrom.and (fun _ A B row hs hg hr=>cell_kept hs hg fun r e=>(hr r e).2) fun _ A B row hs hg hr=>Zw hs hg.size))))
  (fun pre W' hI=>⟨Qqr.ext h hI.2.1,hI.2.2.1,hI.2.2.2.1⟩)
  ⟨⟨_,bL2,World.ownsRow_nil _ _ _ _,trivial⟩,hx02,hc1,hc2,Zf _⟩
  (fun x=>{ tmps:= #[Pj p,Vj now,Vj n,undef,undef,undef,.slice none 0 0,Pj w.heap.size,.string x.1,Vj x.2,Vj n,.bool false,Pj p,Vj now,.func (.func 349) #[] #[.pointer (some ⟨w.heap.size+1,0,none⟩),.pointer (some ⟨w.heap.size+1+1,0,none⟩)],.string x.1,Vj x.2,undef,undef,undef,undef,undef,undef,undef,undef,undef,undef,undef,undef,undef,undef,undef],defers:= [] }) ?assign ?body ?done
 case assign =>
  intro l x W K hK
  gi_wp2
  exact hK
 case body =>
  rintro l pre x W3 ⟨⟨v,hv,hrow,_⟩,hx3,h1,h2,hsz⟩ hlt;have hc:=hv.cell;have hwl:=hv.lt;have s3:=hx3.size;have hfl:(pre++[x]).flatMap Qjv=pre.flatMap Qjv++[.string x.1,Vj x.2]:=by rw[Zbn];rfl
  gi_wp2_with (gi_at_builtin;refine wpListIn_append_own _ rfl _ _ 341 rfl w2.heap.size 345 i0 (.agg #[.string ⟨#[]⟩,Vj 0]) 2 24 Tryz.underlying341 hi hz0 hz1 hz2 rfl (by decide) _ _ _ rfl (hrow.alloc _) ⟨W3.heap.size,0,none⟩ 1 1 [.string x.1,Vj x.2] rfl rfl (Q8t _ _ _ _) (by simp[Value.oneCell']) (by unfold maxLen;omega) Om (by simp;omega) ?_;intro v' w4 hown' hgrow _;obtain⟨g',cap',rfl⟩:=ownsRow_succ hown';obtain⟨hv1,hv2,hr2,hk2,hb2⟩:=hv.appended (by decide) (Qmp hrow hx02.size) s3 (Zf _) (Qmp hown' hx02.size) hgrow;have hc1:=hv1.cell;have hf1:=hv1.frozen)
  have hrb:∀k,v.ownBlock=some k->w2.heap.size<=k:=fun k hk=>(hrow.lt k hk).1
  have hb2l:=cell_lt hc2;have hsame:∀k,k<w2.heap.size->w4.heap[k]?=W3.heap[k]? := fun k hk=>(by refine(hgrow.block k (by simp;omega) fun e=>?_).trans (((Below.refl _ _).alloc (Zf _) _:Ext W3 _).block k Om);have:=hrb k e.symm;omega)
  have hg4:=hgrow.size;simp only[World.size_alloc]at hg4;refine⟨fun k u hb=>?_,⟨_,hv2,hown'.kept (grownBy_setCell' w4 w.heap.size _) (.inr (hv1.not_row (by decide) hown').symm)⟩,Below.trans hx3 hb2,?_,?_,Om⟩
  .have hne:k≠w.heap.size:=fun e=>(by subst e;have q1:W3.heap[w.heap.size]?=_:=hb;have q2:W3.heap[w.heap.size]?=_:=hv;rw[q1]at q2;simp at q2)
   exact Boxed.other ((hb.alloc _).kept hgrow (hb.not_row (by decide) hrow)) hne _
  .rw[World.cell?_of_block (w:=W3) (hsame _ (by simp only at hb2l⊢;omega))];exact h1
  .rw[World.cell?_of_block (w:=W3) (hsame _ (by simp only at hb2l⊢;omega))];exact h2
 case done =>
  rintro ys W3 hS ⟨⟨v,hv,hrow,_⟩,hx3,_,_,hsz⟩ hK;obtain⟨A,c,rfl,hown⟩:=Qcz (enc:=Qjv) (l:=ys) hrow rfl rfl;have hyl:ys.length<=s.length:=(by rw[hS.length_eq];unfold Qhe;refine Zw (Zc _ _) ?_;rw[Zg,Zg];exact Zf _)
  have hown1:Own Qjv 2 345 (w2.heap.size+1) W3 A c ys:=by
   refine Xca ⟨hrow.1,?_⟩;rcases hrow.2 with h2|⟨g,cap,cur,h2,h3,h4,h5⟩
   .exact .inl h2
   .refine .inr ⟨g,cap,cur,h2,?_,h4,h5⟩;rcases Zb6 w2.heap.size g with q|q
    .exact q
    .obtain rfl:g=w2.heap.size:=Om;rw[hK]at h4;cases h4
  have hc:=hv.cell;have hwl:w.heap.size<w2.heap.size:=Zat (Nat.lt_succ_self _) (by have:=cell_lt hc2;simp only at this;omega)
  gi_wp2_with (refine⟨trivial,?_⟩;gi_at_call 299;refine(callsIn_wide.2 (Qxw ys A c (w2.heap.size+1) W3 hown1 Om).2).mono ?_;rintro e w5 ⟨v5,rfl,rfl,F,hFp,hFs,hFsl,hfr⟩;have hk5:∀k,k<=w2.heap.size->w5.heap[k]?=W3.heap[k]? := (fun k hk=>by
   have q0:(W3.heap.extract 0 (w2.heap.size+1)).size=w2.heap.size+1:=by simp;have:=Qgt hK;omega
   have q1:Ext { W3 with heap:=W3.heap.extract 0 (w2.heap.size+1) } W3:=⟨rfl,rfl,rfl,by show (W3.heap.extract 0 (w2.heap.size+1)).size<=_;rw[q0];exact Qgt hK,fun i hi=>by
    have hi:i<(W3.heap.extract 0 (w2.heap.size+1)).size:=hi;show W3.heap[i]?=(W3.heap.extract 0 (w2.heap.size+1))[i]?
    rw[Array.getElem?_extract];rw[q0]at hi;simp[hi];omega⟩
   have q2:=(hfr _ q1 (Nat.le_of_eq q0)).block k (by show k<(W3.heap.extract 0 (w2.heap.size+1)).size;rw[q0];omega);exact q2.trans (q1.block k (by show k<(W3.heap.extract 0 (w2.heap.size+1)).size;rw[q0];omega)).symm);have hK5:=(hk5 _ (Zf _)).trans hK;have hv5:Boxed w5 w.heap.size 341 (.slice A ys.length c):=(hk5 _ Om).trans hv;have hc5:=hv5.cell)
  .rename_i hb _ happ;have hFl:F.length=ys.length:=hFp.length_eq;have hFeq:F=Qgy (Qhe s half now):=Qut (hFp.trans hS) hFs;obtain⟨m,hm⟩:∃m,m=(min n (ys.length:Int)).toNat:=⟨_,rfl⟩;have hml:(F.take n.toNat).length=m:=(by rw[Zn];omega);have s5:w2.heap.size<w5.heap.size:=Qgt hK5;rw[<- hm,<- hml];refine⟨trivial,?_⟩
   gi_at_call 301
   refine(callsIn_wide.2 (Qv0 (F.take n.toNat) A c w5 (hFsl.part _) Om).2).mono ?_;rintro e w6 ⟨v6,rfl,A6,c6,rfl,hown6,hx6⟩;refine happ _ _ ?_
   gi_wp2
   have hx5:=hfr w hx3 Om;have hK6:=(hx6.block _ s5).trans hK5;refine⟨by simp,.inl ⟨_,_,rfl,run_takeDeferred hK6,?_⟩⟩;rw[<- hFeq];have ho:=Xca (l:=F.take n.toNat) (ownsRow_putObj (Xjr hown6) (.deferred none) hK6 rfl);exact⟨_,results_tmp rfl _ _ _,_,rfl,A6,c6,rfl,ho.sl Qnl,fun a ha=>Zw hx5.size (Xm hown6 _ (by rw[ha];rfl)),Below.trans (hx5.trans hx6) (belowK_b (w:=w) (Zf _) w6 w2.heap.size _ _ Om hK6 rfl rfl)⟩
  case isFalse hb =>
   exfalso;apply hb;have:=hown.le;omega
