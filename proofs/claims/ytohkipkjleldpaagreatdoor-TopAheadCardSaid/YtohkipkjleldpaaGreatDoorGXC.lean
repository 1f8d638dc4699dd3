/- Several texts in one: Tf1, Tf2, Tf3. -/
import Derived.RangeFuncBox
import Derived.RangeFuncLeaves
import Derived.RangeFuncWrites
import Derived.Shelf.Abstract
import Derived.Test.YtohkipkjleldpaaGreatDoorGH
import Derived.Shelf.SlIter.Stops
import Derived.Test.YtohkipkjleldpaaGreatDoorGK
import Derived.Test.YtohkipkjleldpaaGreatDoorGXB
import Derived.Shelf.RegionOpen
import Derived.WalkKit
import Derived.OwnWalkIn
import Derived.TacticsInMore
import Derived.LoopNIn
import Derived.LoopIn
import Derived.Maps.AppendAt
import Derived.RangeFuncCalls
import Derived.RangeFuncNested
import Derived.Test.YtohkipkjleldpaaGreatDoorGJ
set_option linter.unusedVariables false
set_option linter.unusedSimpArgs false
namespace Go.Proofs.YtohkipkjleldpaaGreatDoor
open Go.RowKit Go.Se
def Xw (tf:TypeId) (W W':World):Prop:=∀ k v,Boxed W k tf v→Boxed W' k tf v
theorem Xw.refl (tf:TypeId) (W:World):Xw tf W W:=fun _ _ h=>h
theorem Xw.trans {tf:TypeId} {A B C:World} (h:Xw tf A B) (k:Xw tf B C):Xw tf A C:=fun i v hi=>k i v (h i v hi)
theorem Xw.ext {tf:TypeId} {A B:World} (h:Ext A B):Xw tf A B:=fun _ _ hb=>(h.block _ hb.lt).trans hb
theorem Xw.putObj {tf:TypeId} {W:World} {l:Nat} {o:Obj} (o':Obj) (h:W.heap[l]? = some o) (ho:o.isCells=false):Xw tf W (W.putObj l o'):=fun k v hb=>by
 refine(World.putObj_heap_other fun e => ?_).trans hb;subst e;have hb':W.heap[k]? = _:=hb;rw[h] at hb'
 cases hb'
 cases ho
theorem Qby {B:Nat} {W:World} {l:Nat} (o':Obj) (hl:l<B):KeepsFrom B W (W.putObj l o'):=⟨by simp,fun k o hB hk _=>(World.putObj_heap_other (by omega)).trans hk⟩
def Xdj {α:Type} (n:Nat) (P:Program) (g:Nat) (lb:Array Value) (encs:α→Array Value) (S:List α→Prop) (N:Nat) (tf:TypeId) (Rd:World→Prop) (w:World):Prop :=
 ∀ (l:Nat) (J:List α→World→Prop) (W:World),Below w.heap.size w W→OwnFrom W.heap.size J→(∀ pre W1,J pre W1→Rd W1) →
   (∀ pre x W1,J pre W1→pre.length<N→YieldAt Fence.wide (n-1) P l (encs x) W1 fun e W'=>e = .returned (.bool true)∧J (pre ++ [x]) W'∧KeepsWalks W1 W'∧KeepsFrom W.heap.size W1 W'∧Xw tf W1 W') →
   J [] W→CallsIn Fence.wide n P g (#[.func (.yield l) #[] #[]]++lb) W fun e W'=>(∃ v,e = .returned v)∧∃ xs,S xs∧J xs W'
theorem Qff {A B:World} {row:Option Nat} {k:Nat} (hg:A.grownBy B row) (hk:k<A.heap.size) (hr:∀ r,row=some r→r≠k):B.heap[k]? = A.heap[k]? :=
 hg.block k hk fun e=>hr k e.symm rfl
theorem Qbp {W:World} {k:Nat} {o:Obj} (h:W.heap[k]? = some o):k<W.heap.size:=(Array.getElem?_eq_some_iff.1 h).1
theorem Q41 {α:Type} {P:Program} {n:Nat} {g:Operand} {ps:Array Tmp} {assign body:Code} {Q:Exit→Act→World→Prop} {a:Act} {w:World} {gf:Nat} {lb:Array Value}
 (hg:a.eval g = .func (.func gf) #[] lb) (eg:∀ args w,(callFunc gf args).run P w = .ok (.enter gf args) w) {encs:α→Array Value} {S:List α→Prop} {N:Nat} {tf:TypeId} {Rd:World→Prop}
 (hseq:Xdj (n-1) P gf lb encs S N tf Rd w) (hps:∀ x,(encs x).size=ps.size) (I:List α→World→Prop) (hI:OwnFrom w.heap.size I) (hRd:∀ pre W,I pre W→Rd W) (h0:I [] w) (a1:α→Act)
 (hassign:∀ (l:Nat) (x:α) (W:World) (K:Act→World→Prop),K (a1 x) W→assign.wpIn (Fence.wide.inRound l) (n-1-1) P (Exit.then K (fun _ _ _=>False)) { tmps:=(ps.zip (encs x)).foldl (fun t (p,v)=>t.setIfInBounds p v) a.tmps,defers := [] } W)
 (hbody:∀ (l:Nat) (pre:List α) (x:α) (W:World),I pre W→pre.length<N→body.wpIn (Fence.wide.inRound l) (n-1-1) P (fun e _ W'=>e = .normal∧KeepsOthers W W'∧Xw tf W W'∧I (pre ++ [x]) W') (a1 x) W)
 (hdone:∀ (xs:List α) (W:World),S xs→I xs W→W.heap[w.heap.size]? = some (.deferred (some []))→Q .normal { a with defers:={ target := .collected w.heap.size,args := #[] } :: a.defers } W) :
 (Code.rangeFunc g ps assign body).wpIn Fence.wide n P Q a w:=by
 refine wpIn_rangeFunc fun fn hfn => ?_
 rw[show Fence.wide.round=none from rfl];obtain⟨rec,hrec⟩:∃ rec:LoopState→Loop,rec=fun st=>{ state:=st,pending:=none,fn,tmps:=a.tmps,params:=ps,assign,body,defers:=w.heap.size }:=⟨_,rfl⟩
 have hst:∀ st,(rec st).state=st:=fun st=>by rw[hrec]
 obtain⟨W1,hW1⟩:∃ W1,(w.alloc (.deferred (some []))).alloc (.loop (rec .ready))=W1:=⟨_,rfl⟩;have z1:W1.heap.size=w.heap.size+2:=by rw[← hW1];simp
 have hL:W1.heap[w.heap.size+1]? = some (.loop (rec .ready)):=by
  rw[← hW1];have:=World.alloc_heap_new (w.alloc (.deferred (some []))) (.loop (rec .ready))
  rwa [World.size_alloc] at this
 have hD:W1.heap[w.heap.size]? = some (.deferred (some [])):=by
  rw[← hW1]
  exact(Below.heap_alloc _ _ _ (by simp)).trans (World.alloc_heap_new w _)
 have hb1:Below w.heap.size w W1:=by
  rw[← hW1]
  exact((Below.refl _ w).alloc (Nat.le_refl _) _).alloc (by simp) _
 have h1:I [] W1:=by rw[← hW1];exact hI.alloc _ (hI.alloc _ h0)
 refine⟨w.heap.size+1,[{ target := .collected w.heap.size,args := #[] }],W1,{ target := .fn (.func gf) lb,args := #[.func (.yield (w.heap.size+1)) #[] #[]] },W1,gf,#[.func (.yield (w.heap.size+1)) #[] #[]]++lb,W1,?_,?_,?_,?_,?_,?_⟩
 · rw[← hW1,hrec];exact run_enterLoop_outer _ _ _ _ _
 · simp only[resolve,hg]
   simp[go_sem]
 · intro _ _;trivial
 · simp[invoke,go_sem,eg]
 · intro h;cases h
 refine(hseq (w.heap.size+1) (fun pre W=>I pre W∧W.heap[w.heap.size+1]? = some (.loop (rec .ready))∧W.heap[w.heap.size]? = some (.deferred (some []))) W1 hb1 ?_ (fun pre W h=>hRd pre W h.1) ?_ ⟨h1,hL,hD⟩).mono ?_
 · rintro s A B row ⟨hi,hl,hd⟩ hg' hr
   refine⟨hI s A B row hi hg' fun r e=>⟨by have:=(hr r e).1;omega,(hr r e).2⟩,?_,?_⟩
   · rw[Qff hg' (Qbp hl) fun r e=>by have:=(hr r e).1;omega];exact hl
   · rw[Qff hg' (Qbp hd) fun r e=>by have:=(hr r e).1;omega];exact hd
 · rintro pre x W ⟨hi,hl,hd⟩ hlen
   have hy:=run_yield (P:=P) (args:=encs x) hl (by rw[hrec];exact hps x);rw[hrec] at hy;refine⟨fn,_,assign,body,hy,roundIn_of_wpIn hfn (hassign _ x W _ ⟨_,run_beginRound hl (hst _),?_⟩)⟩;have hlt:=Qbp hl;obtain⟨W2,hW2⟩:∃ W2,W.putObj (w.heap.size+1) (.loop { rec .ready with state := .busy })=W2:=⟨_,rfl⟩;have hl2:W2.heap[w.heap.size+1]? = some (.loop { rec .ready with state := .busy }):=by rw[← hW2];exact World.putObj_heap_same hlt
   have hd2:W2.heap[w.heap.size]? = some (.deferred (some [])):=by rw[← hW2];exact(World.putObj_heap_other (by omega)).trans hd
   have hk2:KeepsWalks W W2:=by rw[← hW2];exact KeepsWalks.putObj _ hl rfl
   have hf2:KeepsFrom W1.heap.size W W2:=by rw[← hW2];exact Qby _ (by omega)
   have hx2:Xw tf W W2:=by rw[← hW2];exact Xw.putObj _ hl rfl
   have hi2:I pre W2:=by rw[← hW2];exact hI.putObj _ hi (by omega) hl rfl
   rw[hW2];refine wpIn_mono (hbody _ pre x W2 hi2 hlen) ?_;rintro e a3 W3 ⟨rfl,hk3,hb3,hi3⟩;have hl3:=hk3.same _ _ hl2 rfl;have hd3:=hk3.same _ _ hd2 rfl;have hr3:=run_endRound (P:=P) none hl3;refine⟨_,_,hr3,rfl,⟨hI.putObj _ hi3 (by omega) hl3 rfl,?_,(World.putObj_heap_other (by omega)).trans hd3⟩,(hk2.trans hk3.walks).trans (KeepsWalks.putObj _ hl3 rfl),(hf2.trans (hk3.from _)).trans (Qby _ (by omega)),(hx2.trans hb3).trans (Xw.putObj _ hl3 rfl)⟩;rw[World.putObj_heap_same (Qbp hl3),hrec]
   rfl
 · rintro e W2 ⟨⟨v,rfl⟩,xs,hS,hi,hl,hd⟩
   have hend:=run_endLoop (P:=P) hl (by rw[hst];simp);refine⟨none,_,by rw[hend,hrec],?_⟩
   exact hdone xs _ hS (hI.putObj _ hi (by omega) hl rfl) ((World.putObj_heap_other (by omega)).trans hd)
open Go.Maps Go.Sort Go.Shelf Go.WideElems
attribute [local go_sem] Oper.semAt_some
theorem Qvh {P:Program} {ρ7:Ren} (K:SlLaysZ.n10 P ρ7) {w:World} {Bm b:Nat} {L:List (ByteArray×Value)} (hc:w.cell? ⟨Bm,0,none⟩=some (.map (some b))) (hm:MapAt w b Value.string L) (hk:∀ x∈L,x.1.size≤1000000) (hl:L.length≤1000000000) (n:Nat) (hn:1≤n) :
 ∃ Q Sp,(∀ ss:List (List UInt8),Q ss→ss.Perm ((L.map (·.1)).map fun x=>x.data.toList))∧SeqStopsK Fence.wide n P (ρ7.f 10) #[.pointer (some ⟨Bm,0,none⟩)] (fun x => #[encStr x]) KeepsWalks Q Sp L.length w:=by
 obtain⟨es,hown,hes⟩:=Qpo (P:=P) (k:=ρ7.t 26) hm (fun a b e=>by simpa using e) (fun x => .string x.data.toList) (fun x hx=>Go.WideMaps.keyOf_string_mk K.t26 (by have:=hk x hx;unfold maxLen;omega)) hl
 have hsz:Maps.size (.map es)=L.length:=by
  have:=hes.length_eq
  simp at this
  simpa [Maps.size] using this
 refine⟨_,_,fun ss hp => ?_,hsz ▸ AnyZ.keys_stops K Fence.wide n trivial rfl hn Bm b _ _ w (cell_lt hc) hc hown⟩;refine hp.1.trans ?_;simp only[strKeys];refine(hes.map _).trans ?_;rw[List.map_map,List.map_map]
 exact List.Perm.refl _
theorem Q3g {A B:World} (h:Ext A B):A.grownBy B none:=⟨h.os,h.tape,h.output,h.size,fun k hk _=>h.block k hk⟩
theorem Qcl {β:Type} {B:Nat} {I:β→World→Prop} (h:OwnFrom B I) {s:β} {W W':World} (hs:I s W) (hx:Ext W W'):I s W':=h s W W' none hs (Q3g hx) fun r e=>by cases e
theorem Qej {A B:World} (h:Ext A B):KeepsWalks A B:=⟨h.size,fun k o hk _=>(h.block k (Qbp hk)).trans hk⟩
theorem Qfh {N:Nat} {A B:World} (h:Ext A B):KeepsFrom N A B:=⟨h.size,fun k o _ hk _=>(h.block k (Qbp hk)).trans hk⟩
theorem Qm6 {N M:Nat} {A B:World} (h:KeepsFrom N A B) (hN:N≤M):KeepsFrom M A B:=⟨h.size,fun k o hk=>h.same k o (Nat.le_trans hN hk)⟩
theorem Q5c {n m k l:Nat} {P:Program} {f:FuncId} {tmps:Array Value} {assign body:Code} {w:World} {R:Ending→World→Prop} (h:RoundIn Fence.wide n P l f tmps assign body w R):RoundIn (Fence.wide.inRound k) m P l f tmps assign body w R:=⟨h.1,fun c cs _=>h.2 c cs fun d hd=>by cases hd⟩
structure RdC (S:Nat→Prop) (p:Nat) (half dn:Int) (s:Qjv) (now:Int) (bc bn:Nat) (W:World):Prop where
 ct:Qmy W S p half dn s
 bc:W.cell? ⟨bc,0,none⟩=some (.pointer (some ⟨p,0,none⟩))
 bn:W.cell? ⟨bn,0,none⟩=some (.int .i64 now)
def flC (s:Qjv) (half now:Int) (pre:List (List UInt8)):List Ct:=((pre.map fun x=>(⟨x.toArray⟩:ByteArray)).map fun k=>(k,Qb2 s half k now)).filter fun x=>decide (0<x.2)
theorem Q7k (s:Qjv) (half now:Int) (pre:List (List UInt8)) (x:List UInt8):flC s half now (pre ++ [x])=flC s half now pre++if 0<Qb2 s half ⟨x.toArray⟩ now then [(⟨x.toArray⟩,Qb2 s half ⟨x.toArray⟩ now)] else []:=by
 unfold flC;rw[List.map_append,List.map_append,List.filter_append]
 congr 1
 by_cases h:0<Qb2 s half ⟨x.toArray⟩ now
 · simp[h]
 · simp[h]
theorem Q7j {s:Qjv} {half now:Int} {ss:List (List UInt8)} (h:ss.Perm ((s.map (·.1)).map fun x=>x.data.toList)):(flC s half now ss).Perm (Qfu s half now):=by
 unfold flC Qfu;refine List.Perm.filter _ (List.Perm.map _ ?_);have:=h.map fun x=>(⟨x.toArray⟩:ByteArray)
 rw[List.map_map] at this;refine this.trans ?_;rw[show ((fun x:List UInt8=>(⟨x.toArray⟩:ByteArray)) ∘ fun x:ByteArray=>x.data.toList)=id from funext fun x=>rfl,List.map_id]
theorem Xal (s:Qjv) (half now:Int) (pre:List (List UInt8)):(flC s half now pre).length≤pre.length:=by
 unfold flC;have:=List.length_filter_le (fun x:Ct=>decide (0<x.2)) ((pre.map fun x=>(⟨x.toArray⟩:ByteArray)).map fun k=>(k,Qb2 s half k now))
 simpa using this
set_option maxRecDepth 100000 in
set_option maxHeartbeats 4000000 in
theorem Qur (S:Nat→Prop) (p:Nat) (half dn:Int) (s:Qjv) (now:Int) (hnow:0≤now∧now≤1099511627776) (ht:∀ key r,Qe s key=some r→∀ x∈r,0≤x.1∧x.1≤1099511627776) (hk:∀ x∈s,x.1.size≤1000000) (hl:s.length≤1000000) (bc bn:Nat) (w:World) :
 Xdj 6 Tryz.prog 345 #[.pointer (some ⟨bc,0,none⟩),.pointer (some ⟨bn,0,none⟩)] (fun x:Ct => #[.string x.1,.int .i64 x.2]) (fun xs=>xs.Perm (Qfu s half now)) s.length 377 (RdC S p half dn s now bc bn) w:=by
 intro l J W hW hJ hR hY h0;have hrd:=hR [] W h0;refine callsIn_of_wp_marks Tryz.func345 rfl trivial ?_ rfl;simp only[Tryz.ntmps345,List.size_toArray,List.length_cons,List.length_nil,Nat.reduceAdd,Nat.reduceSub,Array.replicate_succ,Array.replicate_zero,List.push_toArray,List.append_toArray,List.nil_append,List.cons_append];have cy:(W.alloc (.cells #[.func (.yield l) #[] #[]] 377)).cell? ⟨W.heap.size,0,none⟩=some (.func (.yield l) #[] #[]):=Qp2 _ _ _;have hxa:Ext W (W.alloc (.cells #[.func (.yield l) #[] #[]] 377)):=(Below.refl _ _).alloc (Nat.le_refl _) _;have hya:Boxed (W.alloc (.cells #[.func (.yield l) #[] #[]] 377)) W.heap.size 377 (.func (.yield l) #[] #[]):=Boxed.new _ _ _;have cc:=hxa.cell hrd.bc;have cn:=hxa.cell hrd.bn;obtain⟨bm,hct⟩:=hrd.ct
 have cs:(W.alloc (.cells #[.func (.yield l) #[] #[]] 377)).cell? ⟨p,2,none⟩=some (.map (some bm)):=by
  have:=hxa.cell (hct.head.one (k:=2) (v := .map (some bm)) rfl)
  rwa [Qz] at this
 gi_wp2_with (refine⟨trivial,?_⟩;gi_at_call 346;refine(callsIn_wide.2 (Qex Tryz.keys346 ⟨_,Tryz.func346,rfl,rfl⟩ (some bm) _).2).mono ?_;rintro e w2 ⟨v,rfl,rfl,hcell,hx2⟩)
 replace hcell:w2.cell? ⟨W.heap.size+1,0,none⟩=some (.map (some bm)):=by simpa using hcell
 have hx02:=hxa.trans hx2;have hy2:Boxed w2 W.heap.size 377 (.func (.yield l) #[] #[]):=(hx2.block _ hya.lt).trans hya;obtain⟨LK,hLK,hLKk⟩:=Qtl hct.sums;have hLl:LK.length=s.length:=by have:=congrArg List.length hLKk;simpa using this
 obtain⟨Q,Sp,hQ,hseq⟩:=Qvh { Tryz.keys346 with } hcell (hLK.ext hx02) (fun x hx=>by
  have:x.1∈s.map (·.1):=by rw[← hLKk];exact List.mem_map.2 ⟨x,hx,rfl⟩
  obtain⟨y,hy,he⟩:=List.mem_map.1 this;rw[← he];exact hk y hy) (by omega) 5 (by omega)
 refine wpIn_rangeFunc_ownG (α:=List UInt8) rfl (by omega) (gf:=372) (lb := #[.pointer (some ⟨W.heap.size+1,0,none⟩)]) rfl trivial (enters_of Tryz.func372 (by kernel_rfl) rfl) hseq walksK_t walksK_b (Below.refl _ _) (fun _=>rfl)
  (fun pre W'=>J (flC s half now pre) W'∧Boxed W' W.heap.size 377 (.func (.yield l) #[] #[])) (fun _ _ _=>False)
  (OwnFrom.and (fun pre A B row hs hg hr=>hJ (flC s half now pre) A B row hs hg fun r e=>⟨Nat.le_trans hx02.size (hr r e).1,(hr r e).2⟩) (Own.from (boxed_own (β:=List (List UInt8)) W.heap.size 377 fun _ => .func (.yield l) #[] #[]) _))
  (fun _ _ _ _ _ hs _ _=>hs) ⟨Qcl hJ h0 hx02,hy2⟩
  (fun x=>{ tmps := #[.func (.yield l) #[] #[],.pointer (some ⟨bc,0,none⟩),.pointer (some ⟨bn,0,none⟩),.pointer (some ⟨W.heap.size,0,none⟩),.string ⟨x.toArray⟩,undef,.pointer (some ⟨p,0,none⟩),.pointer (some ⟨p,0,none⟩),.pointer (some ⟨p,2,none⟩),.map (some bm),.func (.func 372) #[] #[.pointer (some ⟨W.heap.size+1,0,none⟩)],.string ⟨x.toArray⟩,undef,undef,undef,undef,undef,undef,undef,undef,undef,undef,undef,undef,undef],defers := [] }) ?assign ?body ?done ?stop
 case assign =>
  intro l x W K hK
  gi_wp2
  exact hK
 case body =>
  rintro l2 pre x W3 ⟨hj,hy3⟩ hlt;have hrd3:=hR _ _ hj;have c1:=hrd3.bc;have c2:=hrd3.bn;have c3:=hy3.cell;have hat:=Qzj W3 S p half dn s hrd3.ct ⟨x.toArray⟩ now hnow (ht _);have hsn:=Q7k s half now pre x;have hfl:=Xal s half now pre;generalize Qb2 s half ⟨x.toArray⟩ now=m at hat hsn
  by_cases hpos:0<m
  · gi_wp2_with (refine⟨trivial,?_⟩;gi_at_call 321;refine(CallsIn.inRound l2 (callsIn_wide.2 hat.2)).mono ?_;rintro e W4 ⟨v,rfl,rfl,hx4⟩;have c4:=hx4.cell c3;have hJ4:=Qcl hJ hj hx4;obtain⟨fn,tmps,assign,body,hy,hRr⟩:=hY (flC s half now pre) (⟨x.toArray⟩,m) W4 hJ4 (by omega))
    refine(Q5c hRr).mono ?_;rintro e W5 ⟨rfl,hJ5,hk5,hf5,hb5⟩
    gi_wp2
    exact⟨(Qfh hx4).trans (Qm6 hf5 hx02.size),(Qej hx4).trans hk5,by rw[hsn,if_pos hpos];exact hJ5,hb5 _ _ ((hx4.block _ hy3.lt).trans hy3)⟩
  · gi_wp2_with (refine⟨trivial,?_⟩;gi_at_call 321;refine(CallsIn.inRound l2 (callsIn_wide.2 hat.2)).mono ?_;rintro e W4 ⟨v,rfl,rfl,hx4⟩)
    refine⟨fun _ h=>(by cases h),?_⟩
    gi_wp2
    exact⟨Qfh hx4,Qej hx4,by rw[hsn,if_neg (by omega),List.append_nil];exact Qcl hJ hj hx4,(hx4.block _ hy3.lt).trans hy3⟩
 case done =>
  rintro D xs W3 hD hS ⟨hj,_⟩ hK
  gi_wp2
  refine⟨by simp,.inl ⟨_,_,rfl,run_takeDeferred hK,?_⟩⟩;have hp:=hQ xs hS;rw[hLKk] at hp
  exact⟨_,results_none rfl _ _ _,⟨_,rfl⟩,_,Q7j hp,OwnFrom.putObj hJ _ hj (Nat.le_trans hx02.size hD) hK rfl⟩
 case stop =>
  rintro D c pre W _ _ h _
  exact h.elim
end Go.Proofs.YtohkipkjleldpaaGreatDoor
namespace Go.Proofs.YtohkipkjleldpaaGreatDoor
open Go.RowKit Go.Se
open Go.Maps Go.Sort Go.Shelf Go.WideElems
attribute [local go_sem] Oper.semAt_some
theorem Quo (a b:Ct) (w:World):Cal Tryz.prog 306 [.agg (Qm2 a).toArray,.agg (Qm2 b).toArray] w fun r w'=>r = .int .i64 (Q66 a b)∧Gr w w':=by
 refine Fi Tryz.func306 rfl _ rfl rfl (Hh ?_);intro b1 w1 hn1;conv=>whnf
 intro b2 w2 hn2;have h1:=hn1.At.ext hn2.ext;have h2:=hn2.At;have hx:=(Qbw hn1).trans ((Qbw hn2).trans (Gr.drew w2))
 conv=>whnf
 refine Dr .ext [0,1,2,3,5,6,7,8,4] [9,10,11,12] (Hh ?_);replace h1:At w2.drew b1 _ _:=h1;replace h2:At w2.drew b2 _ _:=h2;generalize w2.drew=w3 at h1 h2 hx ⊢;refine⟨_,h2.one rfl,Hh ?_⟩;refine⟨_,h1.one rfl,Hh ?_⟩;refine⟨_,h1.one rfl,Hh ?_⟩;refine⟨_,h2.one rfl,Hh ?_⟩;refine(Qi6 _ _ _).mono ?_;rintro _ _ ⟨rfl,rfl⟩;refine⟨Ext.refl _,Hh ?_⟩;refine(Qcj _ _ _).mono ?_;rintro _ _ ⟨rfl,rfl⟩;conv=>whnf
 intro b6 w6 hn6;conv=>whnf
 refine(Qf4 [Qd0 b.2 a.2,Qd7 a.1 b.1] _ _ _ (Qbd (enc:=Qgr) Qax hn6) (by simp)).mono ?_;rintro _ _ ⟨rfl,rfl⟩;conv=>whnf
 exact⟨rfl,hx.trans (Qbw hn6)⟩
theorem Qta (l:List Ct) (A:Option Addr) (c base:Nat) (w:World) (hown:Own Qm2 2 360 base w A c l) (hl:l.length<1000000) :
 Cal Tryz.prog 305 [.slice A l.length c,.func (.func 306) #[] #[]] w fun r w'=>r = .tuple #[]∧∃ F,F.Perm l∧Srt Qlz F∧Sl Qm2 2 w' A F∧∀ w0,Ext w0 w→w0.heap.size≤base→Ext w0 w':=by
 have:=Qgd Tryz.sortCount (by decide) Tryz.isAgg360 Tryz.sizeOf360 Qo4 Qo5 Q66 (by rw[Qpx];exact Qfj) ⟨_,Tryz.func305,rfl,rfl⟩ (enters_of Tryz.func306 (by kernel_rfl) rfl) l A c base w hown hl (fun x y w' _=>Quo x y w') (cb := #[]);rw[Qpx] at this
 exact this
theorem Xbs:Tryz.prog.underlying 356=some (.slice 360):=by kernel_rfl
theorem Qrg (x:List Ct) (A:Option Addr) (c:Nat) (w:World) (hs:Sl Qm2 2 w A x) (hl:x.length<1000000) :
 Cal Tryz.prog 307 [.slice A x.length c] w fun r w'=>∃ A' c',r = .slice A' x.length c'∧Own Qm2 2 360 w.heap.size w' A' c' x∧Ext w w':=by
 refine Fi Tryz.func307 rfl _ rfl rfl (Hh ?_);refine⟨_,Xu Xbs A _ _ _ _,Hh ?_⟩;constructor
 · intro h
   obtain rfl:A=none:=by simpa using h
   have hx:x = []:=by
    cases x with
    | nil=>rfl
    | cons e x=>obtain⟨a,ha,_⟩:=hs 0 e rfl;cases ha
   subst hx
   conv=>whnf
   exact⟨none,0,rfl,Own.nil,Ext.refl _⟩
 · intro h
   conv=>whnf
   intro b1 w1 hn1;conv=>whnf
   have o1:=Xc1.made (base:=w.heap.size) hn1 (Nat.le_refl _);refine Qs Xc1 (l := []) (news:=x) rfl o1 rfl (hs.ext hn1.ext) (by simp;omega) hn1.ext.size fun A2 c2 w2 hown2 hg2 hA2 => ?_
   have hx2:=Qr hn1.ext hg2 (Xy o1);rw[List.nil_append] at hown2 ⊢
   conv=>whnf
   exact⟨A2,c2,rfl,hown2,hx2⟩
theorem Qro (p:Nat) (now:Int) (w:World):Cal Tryz.prog 304 [.pointer (some ⟨p,0,none⟩),.int .i64 now] w fun r w'=>r = .func (.func 345) #[] #[.pointer (some ⟨w.heap.size,0,none⟩),.pointer (some ⟨w.heap.size+1,0,none⟩)]∧w'.cell? ⟨w.heap.size,0,none⟩=some (.pointer (some ⟨p,0,none⟩))∧w'.cell? ⟨w.heap.size+1,0,none⟩=some (.int .i64 now)∧Ext w w':=by
 refine Fi Tryz.func304 rfl _ rfl rfl (Hh ?_);intro b1 w1 hn1;conv=>whnf
 intro b2 w2 hn2;conv=>whnf
 have e1:=hn1.block;have e2:=hn2.block;have s1:=hn1.size;subst e1;have e2:b2=w.heap.size+1:=by omega
 subst e2
 exact⟨rfl,(hn1.At.ext hn2.ext).one0,hn2.At.one0,hn1.ext.trans hn2.ext⟩
theorem Xcl:(Tryz.prog.info? 360).map (fun i=>(i.zero,i.size,i.bytes))=some (some (.agg #[.string ⟨#[]⟩,.int .i64 0]),2,24):=by kernel_rfl
theorem Xa4 {α:Type} {enc:α→List Value} {sz:Nat} {te:TypeId} {base:Nat} {w:World} {A:Option Addr} {c:Nat} {l:List α} (h:Own enc sz te base w A c l):w.ownsRow base te sz (.slice A l.length c) l.length (l.flatMap enc):=by
 unfold Own at h
 exact h
theorem Qv4 {α:Type} {enc:α→List Value} {sz:Nat} {te:TypeId} {base:Nat} {w:World} {A:Option Addr} {c:Nat} {l:List α} (h:w.ownsRow base te sz (.slice A l.length c) l.length (l.flatMap enc)):Own enc sz te base w A c l:=by
 unfold Own
 exact h
theorem Qmy.ext {w w1:World} {S:Nat→Prop} {p:Nat} {half n:Int} {s:Qjv} (h:Qmy w S p half n s) (hx:Ext w w1):Qmy w1 S p half n s:=h.keep fun k hk hs=>⟨hx.block k hk,hs⟩
theorem Qj6 {b1 b2 e size:Nat} {W:World} {v:Value} {n:Nat} {xs:List Value} (h:W.ownsRow b1 e size v n xs) (hb:b2≤b1):W.ownsRow b2 e size v n xs:=by
 refine⟨h.1,?_⟩;rcases h.2 with h2 | ⟨g,cap,cur,h2,h3,h4⟩
 · exact .inl h2
 · exact .inr ⟨g,cap,cur,h2,by omega,h4⟩
theorem Qre (w:World) (a b:Value) (t:TypeId):∀ (j:Nat) u,[a,b][j]? = some u→(w.alloc (.cells #[a,b] t)).cell? ((⟨w.heap.size,0,none⟩:Addr).add j)=some u:=by
 intro j u hj;have h:At (w.alloc (.cells #[a,b] t)) w.heap.size t [a,b]:=heap_alloc_new w _;rw[Qz,h.cell,hj]
theorem Sl.part {α:Type} {enc:α→List Value} {sz:Nat} {w:World} {A:Option Addr} {l:List α} (h:Sl enc sz w A l) (k:Nat):Sl enc sz w A (l.take k):=fun i x hi=>by
 rw[List.getElem?_take] at hi
 split at hi
 · exact h i x hi
 · cases hi
set_option maxRecDepth 100000 in
set_option maxHeartbeats 4000000 in
theorem Q8t (w:World) (S:Nat→Prop) (p:Nat) (half dn:Int) (s:Qjv) (h:Qmy w S p half dn s) (now:Int) (hnow:0≤now∧now≤1099511627776) (n:Int) (hn:1≤n∧n≤9223372036854775807) (ht:∀ key r,Qe s key=some r→∀ x∈r,0≤x.1∧x.1≤1099511627776) (hk:∀ x∈s,x.1.size≤1000000) (hl:s.length<1000000) :
 Cal Tryz.prog 237 [.pointer (some ⟨p,0,none⟩),.int .i64 now,.int .i64 n] w fun r w'=>∃ A c,r = .slice A ((Qfo (Qfu s half now)).take n.toNat).length c∧Sl Qm2 2 w' A ((Qfo (Qfu s half now)).take n.toNat)∧(∀ a,A=some a→w.heap.size≤a.block)∧Ext w w':=by
 obtain⟨i0,hi,hz0,hz1,hz2⟩:=info_parts Xcl;refine⟨⟨_,Tryz.func237,rfl,rfl⟩,?_⟩;refine(callsIn_wide (n:=7)).1 ?_;refine callsIn_of_wp_marks Tryz.func237 rfl trivial ?_ rfl;simp only[Tryz.ntmps237,List.size_toArray,List.length_cons,List.length_nil,Nat.reduceAdd,Nat.reduceSub,Array.replicate_succ,Array.replicate_zero,List.push_toArray,List.append_toArray,List.nil_append,List.cons_append];have hn0:¬ n≤0:=by omega
 have bL:=Boxed.new w 356 (.slice none 0 0);have hxL:Ext w (w.alloc (.cells #[.slice none 0 0] 356)):=(Below.refl _ _).alloc (Nat.le_refl _) _
 gi_wp2_with (refine⟨trivial,?_⟩;gi_at_call 304;refine(callsIn_wide.2 (Qro p now _).2).mono ?_;rintro e w2 ⟨v,rfl,rfl,hc1,hc2,hx2⟩)
 replace hc1:w2.cell? ⟨w.heap.size+1,0,none⟩=some (.pointer (some ⟨p,0,none⟩)):=by simpa using hc1
 replace hc2:w2.cell? ⟨w.heap.size+1+1,0,none⟩=some (.int .i64 now):=by simpa using hc2
 have hx02:=hxL.trans hx2;have bL2:Boxed w2 w.heap.size 356 (.slice none 0 0):=(hx2.block _ bL.lt).trans bL
 refine Q41 (α:=Ct) (gf:=345) (lb := #[.pointer (some ⟨w.heap.size+1,0,none⟩),.pointer (some ⟨w.heap.size+1+1,0,none⟩)]) rfl (enters_of Tryz.func345 (by kernel_rfl) rfl) (Qur S p half dn s now hnow ht hk (by omega) _ _ w2) (fun _=>rfl)
  (fun pre W'=>(∃ v,Boxed W' w.heap.size 356 v∧W'.ownsRow w2.heap.size 360 2 v pre.length (pre.flatMap Qm2)∧True)∧Ext w W'∧W'.cell? ⟨w.heap.size+1,0,none⟩=some (.pointer (some ⟨p,0,none⟩))∧W'.cell? ⟨w.heap.size+1+1,0,none⟩=some (.int .i64 now)∧w2.heap.size≤W'.heap.size)
  (OwnFrom.and (Own.from (holdsRow_own (β:=List Ct) w2.heap.size w.heap.size 356 360 2 (fun pre=>pre.length) (fun pre=>pre.flatMap Qm2) fun _ _=>True) _) (OwnFrom.and (ownFrom_below (β:=List Ct) (Nat.le_refl _) hx02.size) (OwnFrom.and (fun _ A B row hs hg hr=>cell_kept hs hg fun r e=>(hr r e).2) (OwnFrom.and (fun _ A B row hs hg hr=>cell_kept hs hg fun r e=>(hr r e).2) fun _ A B row hs hg hr=>Nat.le_trans hs hg.size))))
  (fun pre W' hI=>⟨Qmy.ext h hI.2.1,hI.2.2.1,hI.2.2.2.1⟩)
  ⟨⟨_,bL2,World.ownsRow_nil _ _ _ _,trivial⟩,hx02,hc1,hc2,Nat.le_refl _⟩
  (fun x=>{ tmps := #[.pointer (some ⟨p,0,none⟩),.int .i64 now,.int .i64 n,undef,undef,undef,.slice none 0 0,.pointer (some ⟨w.heap.size,0,none⟩),.string x.1,.int .i64 x.2,.int .i64 n,.bool false,.pointer (some ⟨p,0,none⟩),.int .i64 now,.func (.func 345) #[] #[.pointer (some ⟨w.heap.size+1,0,none⟩),.pointer (some ⟨w.heap.size+1+1,0,none⟩)],.string x.1,.int .i64 x.2,undef,undef,undef,undef,undef,undef,undef,undef,undef,undef,undef,undef,undef,undef,undef],defers := [] }) ?assign ?body ?done
 case assign =>
  intro l x W K hK
  gi_wp2
  exact hK
 case body =>
  rintro l pre x W3 ⟨⟨v,hv,hrow,_⟩,hx3,h1,h2,hsz⟩ hlt;have hc:=hv.cell;have hwl:=hv.lt;have s3:=hx3.size;have hfl:(pre ++ [x]).flatMap Qm2=pre.flatMap Qm2 ++ [.string x.1,.int .i64 x.2]:=by rw[List.flatMap_append];rfl
  gi_wp2_with (gi_at_builtin;refine wpListIn_append_own _ rfl _ _ 356 rfl w2.heap.size 360 i0 (.agg #[.string ⟨#[]⟩,.int .i64 0]) 2 24 Tryz.underlying356 hi hz0 hz1 hz2 rfl (by decide) _ _ _ rfl (hrow.alloc _) ⟨W3.heap.size,0,none⟩ 1 1 [.string x.1,.int .i64 x.2] rfl rfl (Qre _ _ _ _) (by simp[Value.oneCell']) (by unfold maxLen;omega) (by omega) (by simp;omega) ?_;intro v' w4 hown' hgrow _;obtain⟨g',cap',rfl⟩:=ownsRow_succ hown';obtain⟨hv1,hv2,hr2,hk2,hb2⟩:=hv.appended (by decide) (Qj6 hrow hx02.size) s3 (Nat.le_refl _) (Qj6 hown' hx02.size) hgrow;have hc1:=hv1.cell;have hf1:=hv1.frozen)
  have hrb:∀ k,v.ownBlock=some k→w2.heap.size≤k:=fun k hk=>(hrow.lt k hk).1
  have hb2l:=cell_lt hc2
  have hsame:∀ k,k<w2.heap.size→w4.heap[k]? = W3.heap[k]? := fun k hk=>by
   refine(hgrow.block k (by simp;omega) fun e => ?_).trans (((Below.refl _ _).alloc (Nat.le_refl _) _:Ext W3 _).block k (by omega));have:=hrb k e.symm;omega
  have hg4:=hgrow.size;simp only[World.size_alloc] at hg4;refine⟨fun k u hb => ?_,⟨_,hv2,hown'.kept (grownBy_setCell' w4 w.heap.size _) (.inr (hv1.not_row (by decide) hown').symm)⟩,Below.trans hx3 hb2,?_,?_,by omega⟩
  · have hne:k≠w.heap.size:=fun e=>by
     subst e;have q1:W3.heap[w.heap.size]? = _:=hb;have q2:W3.heap[w.heap.size]? = _:=hv;rw[q1] at q2
     simp at q2
    exact Boxed.other ((hb.alloc _).kept hgrow (hb.not_row (by decide) hrow)) hne _
  · rw[World.cell?_of_block (w:=W3) (hsame _ (by simp only at hb2l ⊢;omega))];exact h1
  · rw[World.cell?_of_block (w:=W3) (hsame _ (by simp only at hb2l ⊢;omega))];exact h2
 case done =>
  rintro ys W3 hS ⟨⟨v,hv,hrow,_⟩,hx3,_,_,hsz⟩ hK;obtain⟨A,c,rfl,hown⟩:=Qbj (enc:=Qm2) (l:=ys) hrow rfl rfl
  have hyl:ys.length≤s.length:=by
   rw[hS.length_eq];unfold Qfu;refine Nat.le_trans (List.length_filter_le _ _) ?_;rw[List.length_map,List.length_map]
   exact Nat.le_refl _
  have hown1:Own Qm2 2 360 (w2.heap.size+1) W3 A c ys:=by
   refine Qv4 ⟨hrow.1,?_⟩;rcases hrow.2 with h2 | ⟨g,cap,cur,h2,h3,h4,h5⟩
   · exact .inl h2
   · refine .inr ⟨g,cap,cur,h2,?_,h4,h5⟩
     rcases Nat.lt_or_ge w2.heap.size g with q | q
     · exact q
     · obtain rfl:g=w2.heap.size:=by omega
       rw[hK] at h4
       cases h4
  have hc:=hv.cell;have hwl:w.heap.size<w2.heap.size:=Nat.lt_of_lt_of_le (Nat.lt_succ_self _) (by have:=cell_lt hc2;simp only at this;omega)
  gi_wp2_with (refine⟨trivial,?_⟩;gi_at_call 305;refine(callsIn_wide.2 (Qta ys A c (w2.heap.size+1) W3 hown1 (by omega)).2).mono ?_;rintro e w5 ⟨v5,rfl,rfl,F,hFp,hFs,hFsl,hfr⟩;have hk5:∀ k,k≤w2.heap.size→w5.heap[k]? = W3.heap[k]? := (fun k hk=>by
   have q0:(W3.heap.extract 0 (w2.heap.size+1)).size=w2.heap.size+1:=by simp;have:=Qbp hK;omega
   have q1:Ext { W3 with heap:=W3.heap.extract 0 (w2.heap.size+1) } W3:=⟨rfl,rfl,rfl,by show (W3.heap.extract 0 (w2.heap.size+1)).size≤_;rw[q0];exact Qbp hK,fun i hi=>by
    have hi:i<(W3.heap.extract 0 (w2.heap.size+1)).size:=hi;show W3.heap[i]? = (W3.heap.extract 0 (w2.heap.size+1))[i]?
    rw[Array.getElem?_extract];rw[q0] at hi
    simp[hi]
    omega⟩
   have q2:=(hfr _ q1 (Nat.le_of_eq q0)).block k (by show k<(W3.heap.extract 0 (w2.heap.size+1)).size;rw[q0];omega)
   exact q2.trans (q1.block k (by show k<(W3.heap.extract 0 (w2.heap.size+1)).size;rw[q0];omega)).symm);have hK5:=(hk5 _ (Nat.le_refl _)).trans hK;have hv5:Boxed w5 w.heap.size 356 (.slice A ys.length c):=(hk5 _ (by omega)).trans hv;have hc5:=hv5.cell)
  · rename_i hb _ happ
    have hFl:F.length=ys.length:=hFp.length_eq;have hFeq:F=Qfo (Qfu s half now):=Qqs (hFp.trans hS) hFs;obtain⟨m,hm⟩:∃ m,m=(min n (ys.length:Int)).toNat:=⟨_,rfl⟩
    have hml:(F.take n.toNat).length=m:=by
     rw[List.length_take];omega
    have s5:w2.heap.size<w5.heap.size:=Qbp hK5;rw[← hm,← hml];refine⟨trivial,?_⟩
    gi_at_call 307
    refine(callsIn_wide.2 (Qrg (F.take n.toNat) A c w5 (hFsl.part _) (by omega)).2).mono ?_;rintro e w6 ⟨v6,rfl,A6,c6,rfl,hown6,hx6⟩;refine happ _ _ ?_
    gi_wp2
    have hx5:=hfr w hx3 (by omega);have hK6:=(hx6.block _ s5).trans hK5;refine⟨by simp,.inl ⟨_,_,rfl,run_takeDeferred hK6,?_⟩⟩;rw[← hFeq];have ho:=Qv4 (l:=F.take n.toNat) (ownsRow_putObj (Xa4 hown6) (.deferred none) hK6 rfl)
    exact⟨_,results_tmp rfl _ _ _,_,rfl,A6,c6,rfl,ho.sl Qo4,fun a ha=>Nat.le_trans hx5.size (Xy hown6 _ (by rw[ha];rfl)),Below.trans (hx5.trans hx6) (belowK_b (w:=w) (Nat.le_refl _) w6 w2.heap.size _ _ (by omega) hK6 rfl rfl)⟩
  case isFalse hb =>
   exfalso
   apply hb
   have:=hown.le;omega
end Go.Proofs.YtohkipkjleldpaaGreatDoor
