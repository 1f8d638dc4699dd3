/- Several texts in one: SfDay, Kd1, Kd2, Kd3, Kd4, Kd5, Kd6, Jb1, Jc1. -/
import Derived.Shelf.SlGeneric
import Derived.Shelf.SlSortCmp.NoneTotal
import Derived.Ground.SlsfProg
import Derived.Test.YtohkipkjleldpaaGreatDoorProg
import Derived.Test.YtohkipkjleldpaaGreatDoorGXC
import Derived.Sort.MapsRangeIn
import Derived.Test.YtohkipkjleldpaaGreatDoorGK
import Derived.Test.YtohkipkjleldpaaGreatDoorGZG
import Derived.Test.YtohkipkjleldpaaGreatDoorGI
import Derived.Test.YtohkipkjleldpaaGreatDoorGJ
import Derived.Test.YtohkipkjleldpaaGreatDoorGE
set_option linter.unusedVariables false
set_option linter.unusedSimpArgs false
namespace Go.Proofs
open Go.Shelf
def Tryz.sortDay_ren:Go.Shelf.Ren:=⟨fun | 6=>63 | 15=>106 | 14=>105 | 28=>170 | 29=>171 | 20=>162 | 21=>163 | 22=>164 | 23=>165 | 24=>166 | 25=>167 | 26=>168 | 27=>169 | 46=>222 | 47=>223 | 48=>224 | 49=>225 | 50=>226 | 57=>299 | n=>n,fun | 22=>103 | 24=>102 | 25=>109 | 3=>3 | 39=>183 | 0=>0 | 53=>298 | 55=>30 | 4=>4 | 46=>291 | 45=>290 | 50=>295 | 5=>5 | 9=>9 | 66=>339 | 70=>343 | 76=>415 | 77=>416 | n=>n,fun | n=>n⟩
theorem Tryz.sortDay:Go.Proofs.SlLaysF0.n6 Tryz.prog Tryz.sortDay_ren:={
 mixed:=by kernel_rfl
 f6:=⟨Tryz.f63.name,by decide,Tryz.func63.trans (congrArg some (by kernel_rfl))⟩
 f14:=⟨Tryz.f105.name,by decide,Tryz.func105.trans (congrArg some (by kernel_rfl))⟩
 f15:=Tryz.func106.trans (congrArg some (by kernel_rfl))
 f20:=⟨Tryz.f162.name,by decide,Tryz.func162.trans (congrArg some (by kernel_rfl))⟩
 f21:=⟨Tryz.f163.name,by decide,Tryz.func163.trans (congrArg some (by kernel_rfl))⟩
 f22:=⟨Tryz.f164.name,by decide,Tryz.func164.trans (congrArg some (by kernel_rfl))⟩
 f23:=⟨Tryz.f165.name,by decide,Tryz.func165.trans (congrArg some (by kernel_rfl))⟩
 f24:=⟨Tryz.f166.name,by decide,Tryz.func166.trans (congrArg some (by kernel_rfl))⟩
 f25:=⟨Tryz.f167.name,by decide,Tryz.func167.trans (congrArg some (by kernel_rfl))⟩
 f26:=⟨Tryz.f168.name,by decide,Tryz.func168.trans (congrArg some (by kernel_rfl))⟩
 f27:=⟨Tryz.f169.name,by decide,Tryz.func169.trans (congrArg some (by kernel_rfl))⟩
 f28:=Tryz.func170.trans (congrArg some (by kernel_rfl))
 f29:=Tryz.func171.trans (congrArg some (by kernel_rfl))
 f46:=⟨Tryz.f222.name,by decide,Tryz.func222.trans (congrArg some (by kernel_rfl))⟩
 f47:=Tryz.func223.trans (congrArg some (by kernel_rfl))
 f48:=Tryz.func224.trans (congrArg some (by kernel_rfl))
 f49:=⟨Tryz.f225.name,by decide,Tryz.func225.trans (congrArg some (by kernel_rfl))⟩
 f50:=⟨Tryz.f226.name,by decide,Tryz.func226.trans (congrArg some (by kernel_rfl))⟩
 f57:=⟨Tryz.f299.name,by decide,Tryz.func299.trans (congrArg some (by kernel_rfl))⟩
 t0:=Tryz.underlying0
 a0:=Tryz.isAgg0
 z0:=Tryz.sizeOf0
 v0:=Tryz.zeroValue0
 t3:=Tryz.underlying3
 a3:=Tryz.isAgg3
 z3:=Tryz.sizeOf3
 v3:=Tryz.zeroValue3
 t4:=Tryz.underlying4
 a4:=Tryz.isAgg4
 z4:=Tryz.sizeOf4
 v4:=Tryz.zeroValue4
 t5:=Tryz.underlying5
 a5:=Tryz.isAgg5
 z5:=Tryz.sizeOf5
 v5:=Tryz.zeroValue5
 t9:=Tryz.underlying9
 a9:=Tryz.isAgg9
 z9:=Tryz.sizeOf9
 v9:=Tryz.zeroValue9
 t22:=Tryz.underlying103
 a22:=Tryz.isAgg103
 z22:=Tryz.sizeOf103
 v22:=Tryz.zeroValue103
 t25:=Tryz.underlying109
 a25:=Tryz.isAgg109
 z25:=Tryz.sizeOf109
 v25:=Tryz.zeroValue109
 t39:=Tryz.underlying183
 a39:=Tryz.isAgg183
 z39:=Tryz.sizeOf183
 v39:=Tryz.zeroValue183
 t45:=Tryz.underlying290
 a45:=Tryz.isAgg290
 z45:=Tryz.sizeOf290
 v45:=Tryz.zeroValue290
 t46:=Tryz.underlying291
 a46:=Tryz.isAgg291
 z46:=Tryz.sizeOf291
 v46:=Tryz.zeroValue291
 t50:=Tryz.underlying295
 a50:=Tryz.isAgg295
 z50:=Tryz.sizeOf295
 v50:=Tryz.zeroValue295
 t53:=Tryz.underlying298
 a53:=Tryz.isAgg298
 z53:=Tryz.sizeOf298
 v53:=Tryz.zeroValue298
 t55:=Tryz.underlying30
 a55:=Tryz.isAgg30
 z55:=Tryz.sizeOf30
 v55:=Tryz.zeroValue30
 t66:=Tryz.underlying339
 a66:=Tryz.isAgg339
 z66:=Tryz.sizeOf339
 v66:=Tryz.zeroValue339
 t70:=Tryz.underlying343
 a70:=Tryz.isAgg343
 z70:=Tryz.sizeOf343
 v70:=Tryz.zeroValue343
 t76:=Tryz.underlying415
 a76:=Tryz.isAgg415
 z76:=Tryz.sizeOf415
 v76:=Tryz.zeroValue415
 t77:=Tryz.underlying416
 a77:=Tryz.isAgg416
 z77:=Tryz.sizeOf416
 v77:=Tryz.zeroValue416 }
end Go.Proofs
namespace Go.Proofs.YtohkipkjleldpaaGreatDoor
open Go.RowKit Go.Se
section
variable {F:Fence} {n:Nat} {P:Program} {w:World} {ops:Array Oper} {rest:List Oper} {o:Oper} {a:Act} {Q:Exit→Act→World→Prop}
theorem Qju (hg:o.guard=none) (m:Operand) (t:TypeId) (hop:o.op=Op.range t m) (v:Value) (hm:a.eval m=v)
 (h:Qhr P (Instr.range t v) w fun u w'=>wpListIn F n P ops Q rest (a.put o.dst u) w'):wpListIn F n P ops Q (o :: rest) a w:=by
 refine wpListIn_plain hg fun K' hK' => ?_
 obtain⟨u,w',hrun,hK⟩:=h;unfold Oper.wpIn;refine⟨by simp[Oper.about,hop],?_⟩;rw[Oper.semAt_plain F _ _ (by rw[hop];intro c hc';cases hc')]
 simp[execOp,hop,hm,hrun,Result.andThen]
 exact hK' _ _ hK
theorem Qkm (hg:o.guard=none) (it:Operand) (hop:o.op=Op.next it false) (v:Value) (hm:a.eval it=v)
 (h:Qhr P (Instr.next v false o.type) w fun u w'=>wpListIn F n P ops Q rest (a.put o.dst u) w'):wpListIn F n P ops Q (o :: rest) a w:=by
 refine wpListIn_plain hg fun K' hK' => ?_
 obtain⟨u,w',hrun,hK⟩:=h;unfold Oper.wpIn;refine⟨by simp[Oper.about,hop],?_⟩;rw[Oper.semAt_plain F _ _ (by rw[hop];intro c hc';cases hc')]
 simp[execOp,hop,hm,hrun,Result.andThen]
 exact hK' _ _ hK
end
def seenAt (w:World) (r:Nat):Nat:=match w.heap[r]? with | some (.mapIter _ _ s _)=>s.size | _=>0
section
variable {κ:Type} {w w':World} {r b:Nat} {ek:κ→Value} {L vs:List (κ×Value)}
theorem Qr9 (h:Iter w r b ek L vs):seenAt w r=vs.length:=by
 obtain⟨E,c,V,si,c0,hE,hs,hr,_,_,_,hv,_⟩:=h;unfold seenAt;rw[hr,← hv]
 simp[strip]
theorem Qxl (h:Iter w r b ek L vs):∃ o,w.heap[r]? = some o∧o.isCells=false∧o.isWalk=true:=by
 obtain⟨E,c,V,si,c0,hE,hs,hr,_⟩:=h
 exact⟨_,hr,rfl,rfl⟩
theorem Qz0 (h:Iter w r b ek L vs) (hk:KeepsWalks w w'):Iter w' r b ek L vs:=by
 obtain⟨o,ho,_,hw⟩:=Qxl h;refine h.keep ?_ ((hk.same _ _ ho hw).trans ho.symm);obtain⟨E,c,V,si,c0,hE,_⟩:=h;rw[hE.block]
 exact hk.same _ _ hE.block rfl
end
end Go.Proofs.YtohkipkjleldpaaGreatDoor
namespace Go.Proofs.YtohkipkjleldpaaGreatDoor
open Go.Se Go.RowKit Go.Sort
def dyC (d:Qk9):List Value := [.string d.1,.int .i64 d.2]
def dyV (d:Qk9):Value := .agg #[.string d.1,.int .i64 d.2]
theorem Xah (d:Qk9):(dyC d).length=2:=rfl
theorem Xai (d:Qk9):∀ u∈dyC d,u.oneCell'=true:=by
 intro u hu
 simp[dyC] at hu
 rcases hu with rfl | rfl <;> rfl
def Q67 (a b:Qk9):Int:=orL [Qd0 a.2 b.2,Qd7 a.1 b.1]
def Xaz (a b:Qk9):Bool:=decide (a.2<b.2)||(decide (a.2=b.2)&&bLt a.1 b.1)
theorem Q4a:ltOf Q67=Xaz:=by
 funext a b
 unfold ltOf Q67 Xaz orL Qd0 Qd7;rcases Int.lt_trichotomy a.2 b.2 with h | h | h
 · simp[h]
 · rw[h]
   cases h1:bLt a.1 b.1 <;> cases h2:bLt b.1 a.1 <;> simp
 · have h1:¬ a.2<b.2:=by omega
   have h2:¬ a.2=b.2:=by omega
   simp[h,h1,h2]
theorem Qxu {a b:Qk9}:Xaz a b=true↔a.2<b.2∨(a.2=b.2∧bLt a.1 b.1=true):=by simp[Xaz]
theorem Qxv {a b:Qk9}:Xaz a b=false↔¬ a.2<b.2∧(a.2=b.2→bLt a.1 b.1=false):=by
 rw[← Bool.not_eq_true,Qxu];constructor
 · intro h
   refine⟨fun h1=>h (.inl h1),fun h1 => ?_⟩
   cases hb:bLt a.1 b.1 with
   | false=>rfl
   | true=>exact absurd (.inr ⟨h1,hb⟩) h
 · rintro ⟨h1,h2⟩ (h3 | ⟨h3,h4⟩)
   · exact h1 h3
   · rw[h2 h3] at h4;cases h4
theorem Q7x:Go.Sort.SWO Xaz where
 irrefl x:=by rw[Qxv];exact⟨by omega,fun _=>Xj _⟩
 trans x y z h k:=by
  rw[Qxu] at *;rcases h with h | ⟨h,h'⟩ <;> rcases k with k | ⟨k,k'⟩
  · exact .inl (by omega)
  · exact .inl (by omega)
  · exact .inl (by omega)
  · exact .inr ⟨by omega,Qa2 h' k'⟩
 ntrans x y z h k:=by
  rw[Qxv] at *;refine⟨by omega,fun he => ?_⟩;have h1:=h.1;have k1:=k.1
  exact Qeq (h.2 (by omega)) (k.2 (by omega))
end Go.Proofs.YtohkipkjleldpaaGreatDoor
namespace Go.Proofs.YtohkipkjleldpaaGreatDoor
open Go.RowKit Go.Se
open Go.Maps Go.Sort Go.Shelf Go.WideElems
attribute [local go_sem] Oper.semAt_some
theorem Xbp:Tryz.prog.underlying 98=some (.map 102 60):=by kernel_rfl
set_option maxRecDepth 100000 in
set_option maxHeartbeats 2000000 in
theorem Qz1 (Bm b:Nat) (L:List (Qk9×Value)) (tf:TypeId) (w:World) (n:Nat) (hn:1≤n) :
 Xdj n Tryz.prog 64 #[.pointer (some ⟨Bm,0,none⟩)] (fun x:Qk9 => #[dyV x]) (fun xs=>xs.Perm (L.map (·.1))) L.length tf (fun W=>W.cell? ⟨Bm,0,none⟩=some (.map (some b))∧MapAt W b dyV L) w:=by
 intro l J W hW hJ hR hY h0;obtain⟨hm,hmap⟩:=hR [] W h0;refine callsIn_of_wp Tryz.func64 rfl trivial ?_ rfl;simp only[Tryz.ntmps64,List.size_toArray,List.length_cons,List.length_nil,Nat.reduceAdd,Nat.reduceSub,Array.replicate_succ,Array.replicate_zero,List.push_toArray,List.append_toArray,List.nil_append,List.cons_append]
 gi_wp2_with (first
  | (gi_at_range;refine Qju rfl _ 98 rfl _ rfl (map_range Xbp hmap fun w0 hi0 hx0 => ?_))
  | gi_in)
 gi_loopw [3] (fun _ wr=>∃ vs:List (Qk9×Value),Iter wr W.heap.size b dyV L vs∧vs.length≤L.length∧J (vs.map (·.1)) wr)
  (fun _ wr=>L.length-seenAt wr W.heap.size)
 case atStart=>exact⟨[],hi0,by simp,Qcl hJ h0 hx0⟩
 case round =>
  obtain⟨vs,hi,hvl,hJs⟩:=hrel
  gi_wp2_with (first
   | (gi_at_next;refine Qkm rfl _ rfl _ rfl (Qeb hi ?_ ?_))
   | gi_in)
  · intro hp
    gi_wp2
    go_end0
    exact⟨⟨_,rfl⟩,_,hp.map _,hJs⟩
  · intro k1 k2 xv w2 hin hnew hlt hi2 ho hen
    have hen2:=hen w2 rfl rfl;clear hen
    have hJ2:J (vs.map (·.1)) w2:=hJ _ wr w2 (some W.heap.size) hJs ⟨ho.os,ho.tape,ho.output,Nat.le_of_eq ho.size.symm,fun k _ hne=>ho.block k fun e=>hne (by rw[e])⟩ (fun r e=>by
     cases e
     obtain⟨o,h1,h2,_⟩:=Qxl hi
     exact⟨Nat.le_refl _,o,h1,h2⟩)
    have hx3:Ext w2 (w2.alloc (.cells #[.string k1,.int .i64 k2] 102)):=(Below.refl _ _).alloc (Nat.le_refl _) _;have hJ3:=Qcl hJ hJ2 hx3;obtain⟨fn,tmps,assign,body,hy,hRr⟩:=hY (vs.map (·.1)) (k1,k2) _ hJ3 (by simpa using hlt);simp only[dyV] at hen2 hy
    gi_wp2
    refine hRr.mono ?_;rintro e W5 ⟨rfl,hJ5,hk5,hf5,hb5⟩;have hi5:=Qz0 (hi2.ext hx3) hk5
    gi_wp2
    go_roundw
    case rel=>exact⟨vs ++ [((k1,k2),xv)],hi5,by simp;omega,by simpa using hJ5⟩
    case measure=>rw[Qr9 hi5,Qr9 hi];simp;omega
end Go.Proofs.YtohkipkjleldpaaGreatDoor
namespace Go.Proofs.YtohkipkjleldpaaGreatDoor
open Go.RowKit Go.Se
theorem Q0s {α:Type} {P:Program} {n:Nat} {g:Operand} {ps:Array Tmp} {assign body:Code} {Q:Exit→Act→World→Prop} {a:Act} {w:World} {gf:Nat} {lb:Array Value}
 (hg:a.eval g = .func (.func gf) #[] lb) (eg:∀ args w,(callFunc gf args).run P w = .ok (.enter gf args) w) {encs:α→Array Value} {S:List α→Prop} {N:Nat} {tf:TypeId} {Rd:World→Prop}
 (hseq:Xdj (n-1) P gf lb encs S N tf Rd w) (hps:∀ x,(encs x).size=ps.size) (I:List α→World→Prop) (hI:OwnFrom w.heap.size I) (hRd:∀ pre W,I pre W→Rd W) (h0:I [] w) (Rl:α→Act→World→Prop) (hRl:∀ x a',OwnFrom w.heap.size (fun(_:Unit) W=>Rl x a' W))
 (hassign:∀ (l:Nat) (pre:List α) (x:α) (W:World) (K:Act→World→Prop),I pre W→(∀ a' W',Ext W W'→Rl x a' W'→K a' W')→assign.wpIn (Fence.wide.inRound l) (n-1-1) P (Exit.then K (fun _ _ _=>False)) { tmps:=(ps.zip (encs x)).foldl (fun t (p,v)=>t.setIfInBounds p v) a.tmps,defers := [] } W)
 (hbody:∀ (l:Nat) (pre:List α) (x:α) (a':Act) (W:World),I pre W→Rl x a' W→pre.length<N→body.wpIn (Fence.wide.inRound l) (n-1-1) P (fun e _ W'=>e = .normal∧KeepsOthers W W'∧Xw tf W W'∧I (pre ++ [x]) W') a' W)
 (hdone:∀ (xs:List α) (W:World),S xs→I xs W→W.heap[w.heap.size]? = some (.deferred (some []))→Q .normal { a with defers:={ target := .collected w.heap.size,args := #[] } :: a.defers } W) :
 (Code.rangeFunc g ps assign body).wpIn Fence.wide n P Q a w:=by
 refine wpIn_rangeFunc fun fn hfn => ?_
 rw[show Fence.wide.round=none from rfl];obtain⟨rec,hrec⟩:∃ rec:LoopState→Loop,rec=fun st=>{ state:=st,pending:=none,fn,tmps:=a.tmps,params:=ps,assign,body,defers:=w.heap.size }:=⟨_,rfl⟩
 have hst:∀ st,(rec st).state=st:=fun st=>by rw[hrec]
 obtain⟨W1,hW1⟩:∃ W1,(w.alloc (.deferred (some []))).alloc (.loop (rec .ready))=W1:=⟨_,rfl⟩;have z1:W1.heap.size=w.heap.size+2:=by rw[← hW1];simp
 have hL:W1.heap[w.heap.size+1]? = some (.loop (rec .ready)):=by
  rw[← hW1];have:=World.alloc_heap_new (w.alloc (.deferred (some []))) (.loop (rec .ready))
  rwa [World.size_alloc] at this
 have hD:W1.heap[w.heap.size]? = some (.deferred (some [])):=by
  rw[← hW1]
  exact(Below.heap_alloc _ _ _ (by simp)).trans (World.alloc_heap_new w _)
 have hb1:Below w.heap.size w W1:=by
  rw[← hW1]
  exact((Below.refl _ w).alloc (Nat.le_refl _) _).alloc (by simp) _
 have h1:I [] W1:=by rw[← hW1];exact hI.alloc _ (hI.alloc _ h0)
 refine⟨w.heap.size+1,[{ target := .collected w.heap.size,args := #[] }],W1,{ target := .fn (.func gf) lb,args := #[.func (.yield (w.heap.size+1)) #[] #[]] },W1,gf,#[.func (.yield (w.heap.size+1)) #[] #[]]++lb,W1,?_,?_,?_,?_,?_,?_⟩
 · rw[← hW1,hrec];exact run_enterLoop_outer _ _ _ _ _
 · simp only[resolve,hg]
   simp[go_sem]
 · intro _ _;trivial
 · simp[invoke,go_sem,eg]
 · intro h;cases h
 refine(hseq (w.heap.size+1) (fun pre W=>I pre W∧W.heap[w.heap.size+1]? = some (.loop (rec .ready))∧W.heap[w.heap.size]? = some (.deferred (some []))) W1 hb1 ?_ (fun pre W h=>hRd pre W h.1) ?_ ⟨h1,hL,hD⟩).mono ?_
 · rintro s A B row ⟨hi,hl,hd⟩ hg' hr
   refine⟨hI s A B row hi hg' fun r e=>⟨by have:=(hr r e).1;omega,(hr r e).2⟩,?_,?_⟩
   · rw[Qff hg' (Qbp hl) fun r e=>by have:=(hr r e).1;omega];exact hl
   · rw[Qff hg' (Qbp hd) fun r e=>by have:=(hr r e).1;omega];exact hd
 · rintro pre x W0 ⟨hi0,hl0,hd0⟩ hlen
   have hy:=run_yield (P:=P) (args:=encs x) hl0 (by rw[hrec];exact hps x);rw[hrec] at hy;refine⟨fn,_,assign,body,hy,roundIn_of_wpIn hfn (hassign _ pre x W0 _ hi0 fun a' W hxa hrl => ?_)⟩;have hi:=Qcl hI hi0 hxa;have hl:=(hxa.block _ (Qbp hl0)).trans hl0;have hd:=(hxa.block _ (Qbp hd0)).trans hd0;refine⟨_,run_beginRound hl (hst _),?_⟩;have hlt:=Qbp hl;obtain⟨W2,hW2⟩:∃ W2,W.putObj (w.heap.size+1) (.loop { rec .ready with state := .busy })=W2:=⟨_,rfl⟩;have hl2:W2.heap[w.heap.size+1]? = some (.loop { rec .ready with state := .busy }):=by rw[← hW2];exact World.putObj_heap_same hlt
   have hd2:W2.heap[w.heap.size]? = some (.deferred (some [])):=by rw[← hW2];exact(World.putObj_heap_other (by omega)).trans hd
   have hk2:KeepsWalks W0 W2:=(Qej hxa).trans (by rw[← hW2];exact KeepsWalks.putObj _ hl rfl);have hf2:KeepsFrom W1.heap.size W0 W2:=(Qfh hxa).trans (by rw[← hW2];exact Qby _ (by omega));have hx2:Xw tf W0 W2:=(Xw.ext hxa).trans (by rw[← hW2];exact Xw.putObj _ hl rfl);have hi2:I pre W2:=by rw[← hW2];exact hI.putObj _ hi (by omega) hl rfl
   have hr2:Rl x a' W2:=by rw[← hW2];exact(hRl x a').putObj (s:=()) _ hrl (by omega) hl rfl
   rw[hW2];refine wpIn_mono (hbody _ pre x a' W2 hi2 hr2 hlen) ?_;rintro e a3 W3 ⟨rfl,hk3,hb3,hi3⟩;have hl3:=hk3.same _ _ hl2 rfl;have hd3:=hk3.same _ _ hd2 rfl;have hr3:=run_endRound (P:=P) none hl3;refine⟨_,_,hr3,rfl,⟨hI.putObj _ hi3 (by omega) hl3 rfl,?_,(World.putObj_heap_other (by omega)).trans hd3⟩,(hk2.trans hk3.walks).trans (KeepsWalks.putObj _ hl3 rfl),(hf2.trans (hk3.from _)).trans (Qby _ (by omega)),(hx2.trans hb3).trans (Xw.putObj _ hl3 rfl)⟩;rw[World.putObj_heap_same (Qbp hl3),hrec]
   rfl
 · rintro e W2 ⟨⟨v,rfl⟩,xs,hS,hi,hl,hd⟩
   have hend:=run_endLoop (P:=P) hl (by rw[hst];simp);refine⟨none,_,by rw[hend,hrec],?_⟩
   exact hdone xs _ hS (hI.putObj _ hi (by omega) hl rfl) ((World.putObj_heap_other (by omega)).trans hd)
open Go.Maps Go.Sort Go.Shelf Go.WideElems
attribute [local go_sem] Oper.semAt_some
theorem Xcm:(Tryz.prog.info? 102).map (fun i=>(i.zero,i.size,i.bytes))=some (some (.agg #[.string ⟨#[]⟩,.int .i64 0]),2,24):=by kernel_rfl
set_option maxRecDepth 100000 in
set_option maxHeartbeats 4000000 in
theorem Qld (Bm b:Nat) (L:List (Qk9×Value)) (w:World) (hm:w.cell? ⟨Bm,0,none⟩=some (.map (some b))) (hmap:MapAt w b dyV L) (hl:L.length<1000000) :
 Cal Tryz.prog 104 [.slice none 0 0,.func (.func 64) #[] #[.pointer (some ⟨Bm,0,none⟩)]] w fun r w'=>∃ A c K,r = .slice A K.length c∧K.Perm (L.map (·.1))∧Own dyC 2 102 w.heap.size w' A c K∧Ext w w':=by
 obtain⟨i0,hi,hz0,hz1,hz2⟩:=info_parts Xcm;refine⟨⟨_,Tryz.func104,rfl,rfl⟩,?_⟩;refine(callsIn_wide (n:=7)).1 ?_;refine callsIn_of_wp_marks Tryz.func104 rfl trivial ?_ rfl;simp only[Tryz.ntmps104,List.size_toArray,List.length_cons,List.length_nil,Nat.reduceAdd,Nat.reduceSub,Array.replicate_succ,Array.replicate_zero,List.push_toArray,List.append_toArray,List.nil_append,List.cons_append]
 gi_wp2
 have bO:=Boxed.new w 103 (.slice none 0 0);have hB0:Ext w (w.alloc (.cells #[.slice none 0 0] 103)):=(Below.refl _ w).alloc (Nat.le_refl _) _
 refine Q0s (α:=Qk9) (gf:=64) (lb := #[.pointer (some ⟨Bm,0,none⟩)]) rfl (enters_of Tryz.func64 (by kernel_rfl) rfl)
  (Qz1 Bm b L 3 _ 6 (by omega)) (fun _=>rfl)
  (fun pre W=>(∃ v,Boxed W w.heap.size 103 v∧W.ownsRow w.heap.size 102 2 v pre.length (pre.flatMap dyC)∧True)∧Ext w W)
  (OwnFrom.and (Own.from (holdsRow_own (β:=List Qk9) w.heap.size w.heap.size 103 102 2 (fun pre=>pre.length) (fun pre=>pre.flatMap dyC) fun _ _=>True) _) (ownFrom_below (β:=List Qk9) (Nat.le_refl _) (by simp <;> omega)))
  (fun pre W hI=>⟨hI.2.cell hm,hmap.ext hI.2⟩)
  ⟨⟨_,bO,World.ownsRow_nil _ _ _ _,trivial⟩,hB0⟩
  (fun x a' W=>∃ k,w.heap.size<k∧W.heap[k]? = some (.cells #[.string x.1,.int .i64 x.2] 102 (0,0))∧a'={ tmps := #[.slice none 0 0,.func (.func 64) #[] #[.pointer (some ⟨Bm,0,none⟩)],.pointer (some ⟨w.heap.size,0,none⟩),undef,.slice none 0 0,.pointer (some ⟨k,0,none⟩),.func (.func 64) #[] #[.pointer (some ⟨Bm,0,none⟩)],dyV x,undef,undef,undef,undef,undef],defers := [] })
  ?hrl ?assign ?body ?done
 case hrl =>
  rintro x a' s W W' row ⟨k,hlt,hk,rfl⟩ hg hr;refine⟨k,hlt,(hg.block k (Qbp hk) fun e => ?_).trans hk,rfl⟩;obtain⟨_,o,h1,h2⟩:=hr k e.symm;rw[hk] at h1
  cases h1
  cases h2
 case assign =>
  rintro l pre ⟨x1,x2⟩ W K ⟨⟨v,hv,_,_⟩,hx⟩ hK;simp only[dyV]
  gi_wp2
  exact hK _ _ ((Below.refl _ _).alloc (Nat.le_refl _) _) ⟨W.heap.size,hv.lt,World.alloc_heap_new W _,rfl⟩
 case body =>
  rintro l pre ⟨x1,x2⟩ a' W ⟨⟨v,hv,hrow,_⟩,hx⟩ ⟨k,hlt,hk,rfl⟩ hlen;have hc:=hv.cell;have hk0:W.cell? ⟨k,0,none⟩=some (.string x1):=by simp[World.cell?,hk]
  have hk1:W.cell? ⟨k,1,none⟩=some (.int .i64 x2):=by simp[World.cell?,hk]
  have hs:=hx.size
  gi_wp2_with (gi_at_builtin;refine wpListIn_append_own _ rfl _ _ 103 rfl w.heap.size 102 i0 (.agg #[.string ⟨#[]⟩,.int .i64 0]) 2 24 Tryz.underlying103 hi hz0 hz1 hz2 rfl (by decide) _ _ _ rfl (hrow.alloc _) ⟨W.heap.size,0,none⟩ 1 1 [.string x1,.int .i64 x2] rfl rfl (Qre _ _ _ _) (by simp[Value.oneCell']) (by unfold maxLen;omega) (by omega) (by simp;omega) ?_;intro v' w4 hown' hgrow _;obtain⟨g',cap',rfl⟩:=ownsRow_succ hown';obtain⟨hv1,hv2,hr2,hk2,hb2⟩:=hv.appended (by decide) hrow hs (Nat.le_refl _) hown' hgrow;have hc1:=hv1.cell;have hf1:=hv1.frozen)
  refine⟨fun k' u hb => ?_,⟨_,hv2,by simpa [dyC] using hr2⟩,Below.trans hx hb2⟩
  have hne:k'≠w.heap.size:=fun e=>by
   subst e;have q1:W.heap[w.heap.size]? = _:=hb;have q2:W.heap[w.heap.size]? = _:=hv;rw[q1] at q2
   simp at q2
  exact Boxed.other ((hb.alloc _).kept hgrow (hb.not_row (by decide) hrow)) hne _
 case done =>
  rintro ys W hS ⟨⟨v,hv,hrow,_⟩,hx⟩ hK;obtain⟨A,c,rfl,hown⟩:=Qbj (enc:=dyC) (l:=ys) hrow rfl rfl;have hc:=hv.cell
  gi_wp2
  refine⟨by simp,.inl ⟨_,_,rfl,run_takeDeferred hK,?_⟩⟩;refine⟨_,results_tmp rfl _ _ _,_,rfl,A,c,ys,rfl,hS,Qv4 (ownsRow_putObj hrow _ hK rfl),?_⟩
  exact Below.trans hx (belowK_b (w:=w) (Nat.le_refl _) W _ _ _ (by simp) hK rfl rfl)
end Go.Proofs.YtohkipkjleldpaaGreatDoor
namespace Go.Proofs.YtohkipkjleldpaaGreatDoor
open Go.RowKit Go.Se Go.Sort
theorem Qo6 (Bm b:Nat) (L:List (Qk9×Value)) (w:World) (hm:w.cell? ⟨Bm,0,none⟩=some (.map (some b))) (hmap:MapAt w b dyV L) (hl:L.length<1000000) :
 Cal Tryz.prog 62 [.func (.func 64) #[] #[.pointer (some ⟨Bm,0,none⟩)]] w fun r w'=>∃ A c K,r = .slice A K.length c∧K.Perm (L.map (·.1))∧Own dyC 2 102 w.heap.size w' A c K∧Ext w w':=by
 refine Fi Tryz.func62 rfl _ rfl rfl (Hh ?_);refine(Qld Bm b L w hm hmap hl).mono ?_;rintro _ w1 ⟨A,c,K,rfl,hp,hown,hx⟩;conv=>whnf
 exact⟨A,c,K,rfl,hp,hown,hx⟩
theorem Qsc (b:Nat) (w:World) :
 Cal Tryz.prog 32 [.map (some b)] w fun r w'=>r = .func (.func 64) #[] #[.pointer (some ⟨w.heap.size,0,none⟩)]∧w'.cell? ⟨w.heap.size,0,none⟩=some (.map (some b))∧Ext w w':=by
 refine Fi Tryz.func32 rfl _ rfl rfl (Hh ?_);intro b1 w1 hn1;conv=>whnf
 have e1:=hn1.block;subst e1
 exact⟨rfl,hn1.At.one0,hn1.ext⟩
theorem Qzb (a b:Qk9) (w:World):Cal Tryz.prog 33 [.agg (dyC a).toArray,.agg (dyC b).toArray] w fun r w'=>r = .int .i64 (Q67 a b)∧Gr w w':=by
 refine Fi Tryz.func33 rfl _ rfl rfl (Hh ?_);intro b1 w1 hn1;conv=>whnf
 intro b2 w2 hn2;have h1:=hn1.At.ext hn2.ext;have h2:=hn2.At;have hx:=(Qbw hn1).trans ((Qbw hn2).trans (Gr.drew w2))
 conv=>whnf
 refine Dr .ext [0,1,2,3,5,6,7,8,4] [9,10,11,12] (Hh ?_);replace h1:At w2.drew b1 _ _:=h1;replace h2:At w2.drew b2 _ _:=h2;generalize w2.drew=w3 at h1 h2 hx ⊢;refine⟨_,h1.one rfl,Hh ?_⟩;refine⟨_,h2.one rfl,Hh ?_⟩;refine⟨_,h1.one rfl,Hh ?_⟩;refine⟨_,h2.one rfl,Hh ?_⟩;refine(Qdr _ _ _).mono ?_;rintro _ _ ⟨rfl,rfl⟩;refine⟨Ext.refl _,Hh ?_⟩;refine(Qcj _ _ _).mono ?_;rintro _ _ ⟨rfl,rfl⟩;conv=>whnf
 intro b6 w6 hn6;conv=>whnf
 refine(Qf4 [Qd0 a.2 b.2,Qd7 a.1 b.1] _ _ _ (Qbd (enc:=Qgr) Qax hn6) (by simp)).mono ?_;rintro _ _ ⟨rfl,rfl⟩;conv=>whnf
 exact⟨rfl,hx.trans (Qbw hn6)⟩
theorem Qs5 (l:List Qk9) (A:Option Addr) (c base:Nat) (w:World) (hown:Own dyC 2 102 base w A c l) (hl:l.length<1000000) :
 Cal Tryz.prog 63 [.slice A l.length c,.func (.func 33) #[] #[]] w fun r w'=>r = .tuple #[]∧∃ F,F.Perm l∧Srt Xaz F∧Sl dyC 2 w' A F∧∀ w0,Ext w0 w→w0.heap.size≤base→Ext w0 w':=by
 have:=Qgd Tryz.sortDay (by decide) Tryz.isAgg102 Tryz.sizeOf102 Xah Xai Q67 (by rw[Q4a];exact Q7x) ⟨_,Tryz.func63,rfl,rfl⟩ (enters_of Tryz.func33 (by kernel_rfl) rfl) l A c base w hown hl (fun x y w' _=>Qzb x y w') (cb := #[]);rw[Q4a] at this
 exact this
theorem Qm9 (Bm b:Nat) (L:List (Qk9×Value)) (w:World) (hm:w.cell? ⟨Bm,0,none⟩=some (.map (some b))) (hmap:MapAt w b dyV L) (hl:L.length<1000000) :
 Cal Tryz.prog 31 [.func (.func 64) #[] #[.pointer (some ⟨Bm,0,none⟩)],.func (.func 33) #[] #[]] w fun r w'=>∃ A c K,r = .slice A K.length c∧K.Perm (L.map (·.1))∧Sl dyC 2 w' A K∧(∀ a,A=some a→w.heap.size≤a.block)∧Ext w w':=by
 refine Fi Tryz.func31 rfl _ rfl rfl (Hh ?_);refine(Qo6 Bm b L w hm hmap hl).mono ?_;rintro _ w1 ⟨A,c,K,rfl,hp,hown,hx⟩;conv=>whnf
 have hKl:K.length<1000000:=by rw[hp.length_eq,List.length_map];exact hl
 refine(Qs5 K A c w.heap.size w1 hown hKl).mono ?_;rintro _ w2 ⟨rfl,F,hF,_,hs,hfr⟩;conv=>whnf
 rw[← hF.length_eq]
 exact⟨A,c,F,rfl,hF.trans hp,hs,fun a ha=>(hown.block ha).1,hfr w hx (Nat.le_refl _)⟩
end Go.Proofs.YtohkipkjleldpaaGreatDoor
namespace Go.Proofs.YtohkipkjleldpaaGreatDoor
open Go.Se Go.RowKit
def grC (n:Int):List Value := [.int .i64 n,.int .i64 0,.int .i64 0]
def grV (n:Int):Value := .agg (grC n).toArray
theorem Qod (w:World):Cal Tryz.prog 48 [Qhq (0,0)] w fun r w'=>r = .bool false∧Ext w w':=by
 refine Fi Tryz.func48 rfl _ rfl rfl (Hh ?_);intro b1 w1 hn1;conv=>whnf
 have h1:At w1 b1 _ (Qhk (0,0)):=hn1.At;refine⟨.int .i64 0,h1.one rfl,Hh ?_⟩;refine⟨.int .i64 0,fun _=>h1.one rfl,Hh ?_⟩
 exact⟨by simp,hn1.ext⟩
theorem Qvw (w:World):Cal Tryz.prog 19 [Qhq (0,0),Qhq (0,0)] w fun r w'=>r = .int .i64 0∧Ext w w':=by
 refine Fi Tryz.func19 rfl _ rfl rfl (Hh ?_);intro b1 w1 hn1;conv=>whnf
 intro b2 w2 hn2;have h1:At w2 b1 _ (Qhk (0,0)):=hn1.At.ext hn2.ext;have h2:At w2 b2 _ (Qhk (0,0)):=hn2.At;have hx2:=hn1.ext.trans hn2.ext;have e1:=hn1.block;have e2:=hn2.block;have s1:=hn1.size;clear hn1 hn2;refine Gg ?_;refine⟨Qhk (0,0),⟨rfl,h1.all⟩,Hh ?_⟩;refine(Qod w2).mono ?_;rintro _ w3 ⟨rfl,hx3⟩;replace h1:=h1.ext hx3;replace h2:=h2.ext hx3;replace hx3:=hx2.trans hx3
 conv=>whnf
 refine⟨fun _ => ?_,fun h=>(by simp at h)⟩;refine Gg ?_;refine Qd Qa (e:=ty71) rfl h1 rfl rfl rfl (by simp[Qg,Value.oneCell']) fun w4 h4 ho4 => ?_
 have h4:At w4 b1 _ (Qhk (0,1)):=h4;have hx4:=ho4.ext hx3 (by omega);have h24:At w4 b2 _ (Qhk (0,0)):=(ho4.block b2 (by omega)).trans h2;refine Gg ?_;refine⟨Qhk (0,0),⟨rfl,h24.all⟩,Hh ?_⟩;refine(Qod w4).mono ?_;rintro _ w5 ⟨rfl,hx5⟩;replace h4:=h4.ext hx5;replace h24:=h24.ext hx5;replace hx5:=hx4.trans hx5;clear hx3 hx4 h1 h2 ho4
 conv=>whnf
 refine⟨fun _ => ?_,fun h=>(by simp at h)⟩;refine Gg ?_;refine Qd Qa (e:=ty71) rfl h24 rfl rfl rfl (by simp[Qg,Value.oneCell']) fun w6 h6 ho6 => ?_
 have h6:At w6 b2 _ (Qhk (0,1)):=h6;have hx6:=ho6.ext hx5 (by omega);have h16:At w6 b1 _ (Qhk (0,1)):=(ho6.block b1 (by omega)).trans h4;clear ho6 hx5 h4 h24;refine Gg ?_;refine⟨.int .i64 0,h16.one rfl,Hh ?_⟩;refine⟨.int .i64 1,h6.one rfl,Hh ?_⟩;refine(Qed 0 1 (by omega) (by omega) (by omega) (by omega) w6).mono ?_;rintro _ _ ⟨rfl,rfl⟩;conv=>whnf
 refine⟨.int .i64 0,h6.one rfl,Hh ?_⟩;refine⟨.int .i64 1,h16.one rfl,Hh ?_⟩;refine(Qed 0 1 (by omega) (by omega) (by omega) (by omega) _).mono ?_;rintro _ _ ⟨rfl,rfl⟩
 conv=>whnf
 constructor
 · intro hc
   simp at hc
 intro _
 conv=>whnf
 constructor
 · intro _
   conv=>whnf
   exact⟨rfl,hx6⟩
 intro he
 simp at he
theorem Qob (n:Int) (hn:0≤n∧n<4000000000) (w:World):Cal Tryz.prog 19 [Qhq (0,n),Qhq (0,n)] w fun r w'=>r = .int .i64 0∧Ext w w':=by
 by_cases h0:n=0
 · subst h0
   exact Qvw w
 · have hr:Qla 4000000000 (0,n):=by
    refine⟨?_,?_,?_,?_⟩ <;> simp only <;> omega
   refine(Qdg (by decide) (0,n) (0,n) hr hr w).mono ?_;rintro _ w1 ⟨rfl,hg⟩
   exact⟨by simp[Qmx],hg.ext⟩
theorem Qr0 (n:Int) (w:World):Cal Tryz.prog 16 [grV n] w fun r w'=>r=Qhq (0,n)∧Ext w w':=by
 refine Fi Tryz.func16 rfl _ rfl rfl (Hh ?_);intro b1 w1 hn1;conv=>whnf
 intro b2 w2 hn2;conv=>whnf
 have h1:At w2 b1 _ (grC n):=hn1.At.ext hn2.ext;refine⟨_,h1.one rfl,Hh ?_⟩;refine⟨_,h1.one rfl,Hh ?_⟩;refine Qd Qa (e:=ty71) rfl hn2.At rfl rfl rfl (by simp[Qg,Value.oneCell']) fun w3 h3 ho3 => ?_
 have h3:At w3 b2 _ (Qhk (0,n)):=h3;have hx3:=ho3.ext (hn1.ext.trans hn2.ext) (by have:=hn1.size;have:=hn2.block;omega)
 conv=>whnf
 exact⟨Qhk (0,n),⟨rfl,h3.all⟩,rfl,hx3⟩
theorem Qr5 (n:Int) (w:World):Cal Tryz.prog 17 [grV n] w fun r w'=>r=Qhq (0,n)∧Ext w w':=by
 refine Fi Tryz.func17 rfl _ rfl rfl (Hh ?_);intro b1 w1 hn1;conv=>whnf
 intro b2 w2 hn2;conv=>whnf
 have h1:At w2 b1 _ (grC n):=hn1.At.ext hn2.ext;refine⟨_,h1.one rfl,Hh ?_⟩;refine⟨_,h1.one rfl,Hh ?_⟩;refine Qd Qa (e:=ty71) rfl hn2.At rfl rfl rfl (by simp[Qg,Value.oneCell']) fun w3 h3 ho3 => ?_
 have h3:At w3 b2 _ (Qhk (0,n)):=h3;have hx3:=ho3.ext (hn1.ext.trans hn2.ext) (by have:=hn1.size;have:=hn2.block;omega)
 conv=>whnf
 exact⟨Qhk (0,n),⟨rfl,h3.all⟩,rfl,hx3⟩
theorem Qsa (n:Int) (hn:0≤n∧n<4000000000) (w:World):Cal Tryz.prog 7 [grV n,grV n] w fun r w'=>r = .int .i64 0∧Ext w w':=by
 refine Fi Tryz.func7 rfl _ rfl rfl (Hh ?_);intro b1 w1 hn1;conv=>whnf
 intro b2 w2 hn2;have h1:At w2 b1 _ (grC n):=hn1.At.ext hn2.ext;have h2:At w2 b2 _ (grC n):=hn2.At;have hx:=(hn1.ext.trans hn2.ext).drew;clear hn1 hn2
 conv=>whnf
 refine Dr .ext [0,1,3,4,7,8,10,11,14,15,16,17,2,5,6,9,12,13] [18,19,20,21] (Hh ?_);replace h1:At w2.drew b1 _ _:=h1;replace h2:At w2.drew b2 _ _:=h2;generalize w2.drew=w3 at h1 h2 hx ⊢;refine⟨grC n,⟨rfl,h1.all⟩,Hh ?_⟩;refine⟨grC n,⟨rfl,h2.all⟩,Hh ?_⟩;refine⟨grC n,⟨rfl,h1.all⟩,Hh ?_⟩;refine⟨grC n,⟨rfl,h2.all⟩,Hh ?_⟩;refine⟨_,h1.one rfl,Hh ?_⟩;refine⟨_,h2.one rfl,Hh ?_⟩;refine(Qr0 n w3).mono ?_;rintro _ w4 ⟨rfl,hx4⟩;refine⟨hx4,Hh ?_⟩;refine(Qr0 n w4).mono ?_;rintro _ w5 ⟨rfl,hx5⟩;refine⟨hx5,Hh ?_⟩;refine(Qob n hn w5).mono ?_;rintro _ w6 ⟨rfl,hx6⟩;refine⟨hx6,Hh ?_⟩;refine(Qr5 n w6).mono ?_;rintro _ w7 ⟨rfl,hx7⟩;refine⟨hx7,Hh ?_⟩;refine(Qr5 n w7).mono ?_;rintro _ w8 ⟨rfl,hx8⟩;refine⟨hx8,Hh ?_⟩;refine(Qob n hn w8).mono ?_;rintro _ w9 ⟨rfl,hx9⟩;refine⟨hx9,Hh ?_⟩;refine(Qdr _ _ _).mono ?_;rintro _ _ ⟨rfl,rfl⟩;conv=>whnf
 intro b6 w10 hn10;conv=>whnf
 refine(Qf4 [0,0,Qd0 n n] _ _ _ (Qbd (enc:=Qgr) Qax hn10) (by simp)).mono ?_;rintro _ _ ⟨rfl,rfl⟩;conv=>whnf
 exact⟨by simp[orL,Qd0],hx.trans (hx4.trans (hx5.trans (hx6.trans (hx7.trans (hx8.trans (hx9.trans hn10.ext))))))⟩
end Go.Proofs.YtohkipkjleldpaaGreatDoor
namespace Go.Proofs.YtohkipkjleldpaaGreatDoor
open Go.Se Go.RowKit Go.Sort
theorem Qxe:Qnc Tryz.prog 100 lnk :=
 Qew (encl:=Qje) Qa st100 (fun k=>rfl)
  (fun a b=>by
   show some (decide (a.1=b.1)&&(decide (a.2=b.2)&&true))=some (decide (a=b))
   rw[Bool.and_true]
   congr 1
   by_cases h1:a.1=b.1 <;> by_cases h2:a.2=b.2 <;> simp[Prod.ext_iff,h1,h2])
  (fun k=>by simp[Instr.sameBits,Qje,Go.MapKept.bytes_beq])
theorem Q23:Qnc Tryz.prog 102 dyV :=
 Qew (encl:=dyC) Qa st102 (fun k=>rfl)
  (fun a b=>by
   show some (decide (a.1=b.1)&&(decide (a.2=b.2)&&true))=some (decide (a=b))
   rw[Bool.and_true]
   congr 1
   by_cases h1:a.1=b.1 <;> by_cases h2:a.2=b.2 <;> simp[Prod.ext_iff,h1,h2])
  (fun k=>by simp[Instr.sameBits,dyC,Go.MapKept.bytes_beq])
theorem Xde:Tryz.prog.underlying 97=some (.map 100 4):=by kernel_rfl
abbrev CaR:=ByteArray×Int×SV
def caC (x:CaR):List Value := [.string x.1,.int .i64 x.2.1,.slice x.2.2.1 x.2.2.2.1 x.2.2.2.2]
theorem Q2n (x:CaR):(caC x).length=3:=rfl
theorem Xa8:Qne Tryz.prog 58 62 caC 3 48:=⟨by kernel_rfl,⟨_,ty62_ok,rfl,rfl⟩,by62,by decide,by decide,Q2n,fun x=>by simp[caC,Value.oneCell']⟩
theorem Q93 (z:List Ev) (k:Nat) (h:k<z.length):Qag (z.take (k+1))=Qer (Qag (z.take k)) z[k]:=by
 rw[List.take_succ_eq_append_getElem h,Qi5]
section
variable {κ:Type} [DecidableEq κ] {ek:κ→Value} {α:Type} {enc:α→List Value} {sz:Nat} {te:TypeId} {w:World} {S:Nat→Prop} {bm:Nat} {rows:κ→List α} {L:List (κ×(Option Addr×Nat))}
theorem Qa1.val (h:Qa1 ek enc sz te w S bm rows L) {e:TyE} (hz:e.zero = .slice none 0 0) (k:κ):(Qe (Qyo rows L) k).getD e.zero = .slice (Qbn L k).1 (rows k).length (Qbn L k).2:=by
 rw[Qly,hz];unfold Qbn
 cases hk:Qe L k with
 | none=>rw[h.all k hk];rfl
 | some p=>rfl
end
theorem Q88 {e:Ev} (h:Xn e=true):0≤e.at_.tdiv 86400∧e.at_.tdiv 86400≤12725829:=by
 have:=Qsl h;rw[Int.tdiv_eq_ediv_of_nonneg this.1];omega
set_option maxHeartbeats 8000000 in
theorem Qve (z:List Ev) (A:Option Addr) (cap:Nat) (w:World) (hs:SlE w A z) (hz:z.length<1000) (hm:∀ e∈z,Xn e=true) :
 Cal Tryz.prog 12 [.slice A z.length cap] w fun r w'=>∃ B d H,r = .slice B H.length d∧Sl caC 3 w' B H∧H.length=(Qag z).2.length∧(∀ x∈H,∃ y∈(Qag z).2,x.1=y.1.1∧x.2.1=y.1.2*86400)∧(∀ a,B=some a→w.heap.size≤a.block)∧Ext w w':=by
 refine Fi Tryz.func12 rfl _ rfl rfl (Hh ?_);intro bs w1 hn1;refine Gg ?_;have hm1:MapAt w1 bs lnk []:=MapAt.new hn1;have e1:=hn1.block;have s1:=hn1.size;intro bm w2 hn2;have e2:=hn2.block;have s2:=hn2.size;have hR2:Qa1 dyV Qav 1 9 w2 (fun k=>k=bm) bm (fun _=>([]:List ByteArray)) []:=Qa1.new hn2 rfl;have hm2:=hm1.ext hn2.ext;have hx2:=hn1.ext.trans hn2.ext;clear hm1 hn1 hn2;refine Gg ?_
 refine Qh Qa (fun(q:Nat×List (Xdi×Bool)×(Nat→Prop)×(Qk9→List ByteArray)×List (Qk9×(Option Addr×Nat))) w'=>q.1≤z.length∧Ext w w'∧q.2.1=(Qag (z.take q.1)).1∧MapAt w' bs lnk (Xm Value.bool q.2.1)∧(∀ x,q.2.2.2.1 x=(Qe (Qag (z.take q.1)).2 x).getD [])∧q.2.2.2.2.map (·.1)=(Qag (z.take q.1)).2.map (·.1)∧Qa1 dyV Qav 1 9 w' q.2.2.1 bm q.2.2.2.1 q.2.2.2.2∧(∀ k,q.2.2.1 k→w.heap.size≤k∧k<w'.heap.size∧k≠bs))
  (fun | (k,_) => [(3,.map (some bs)),(4,.map (some bm)),(15,.slice A z.length cap),(16,.int .i64 z.length),(17,.int .i64 (k:Nat))]) (fun q=>z.length-q.1) (0,[],(fun k=>k=bm),(fun _ => []),[]) ⟨Nat.zero_le _,hx2,rfl,hm2,fun x=>rfl,rfl,hR2,fun k hk=>by subst hk;exact⟨by omega,by omega,by omega⟩⟩ Rr ?_
 clear hm2 hR2 hx2;rintro ⟨k,sn,S,f,L⟩ w3 ⟨hk,hx3,hsn,hms,hf,hkL,hR,hS⟩;simp only at hk hsn hms hf hkL hR hS;have z3:=hx3.size;refine Gg ?_;constructor
 · intro hlt
   have hlt:k<z.length:=by simpa using hlt
   obtain⟨a,rfl,hc⟩:=(hs.ext hx3).get hlt;have htk:=Q93 z k hlt;have hme:=hm _ (List.getElem_mem hlt);have hrl:=Q2p (z.take k);obtain⟨s0,hs0⟩:∃ s0,Qag (z.take k)=s0:=⟨_,rfl⟩;rw[hs0] at htk hsn hf hkL hrl
   have hfl:∀ x,(f x).length≤k:=fun x=>by
    rw[hf]
    cases hq:Qe s0.2 x with
    | none=>simp
    | some r =>
      have:=(hrl _ (Xt hq)).1;rw[List.length_take] at this;simp only[Option.getD_some];simp only at this;omega
   generalize z[k]=e at hc htk hme;have hdb:=Q88 hme;clear hrl hs0;refine Gg ?_;refine⟨a,Ix,Gg ?_⟩;refine⟨evC e,⟨rfl,hc⟩,Gg ?_⟩;intro b4 w4 hn4;refine Gg ?_;refine Qd Qa (e:=ty38) rfl hn4.At rfl rfl rfl (by simp[Qg,evC,Value.oneCell']) fun w5 h5 ho5 => ?_
   have h5:At w5 b4 38 (evC e):=h5;have e4:=hn4.block;have hx35:Ext w3 w5:=ho5.ext hn4.ext (by rw[hn4.block];exact Nat.le_refl _);have z5:=hx35.size;have hbs:=hms.lt;replace hms:=hms.ext hx35;replace hR:Qa1 dyV Qav 1 9 w5 S bm f L:=hR.keep fun i hi hs=>⟨hx35.block i hi,hs⟩
   replace hS:∀ k,S k→w.heap.size≤k∧k<w5.heap.size∧k≠bs:=fun k hk=>⟨(hS k hk).1,by have:=(hS k hk).2.1;omega,(hS k hk).2.2⟩
   have hx5:=hx3.trans hx35;clear ho5 hn4 hx35 hx3;refine Gg ?_;refine⟨.int .i64 e.kind,h5.one rfl,Gg ?_⟩;refine⟨.int .i64 e.kind,fun _=>h5.one rfl,Gg ?_⟩;constructor
   · intro hq
     have hq:fbB e=false:=by
      have:¬ e.kind=2∧¬ e.kind=3:=by simpa using hq
      simp[fbB,this.1,this.2]
     have hst:Qer s0 e=s0:=by unfold Qer;rw[if_neg (by rw[hq];simp)]
     rw[hst] at htk;refine Gg ?_;refine⟨_,wrap_succ (by omega),Gg ?_⟩
     exact⟨(k+1,sn,S,f,L),by simp only;omega,⟨by simp only;omega,hx5,by simp only;rw[htk];exact hsn,hms,by simp only;rw[htk];exact hf,by simp only;rw[htk];exact hkL,hR,hS⟩,Rr⟩
   intro hq
   have hq:fbB e=true:=by
    have hq:¬ (¬ e.kind=2∧¬ e.kind=3):=by simpa using hq
    by_cases h2:e.kind=2
    · simp[fbB,h2]
    · by_cases h3:e.kind=3
      · simp[fbB,h3]
      · exact absurd ⟨h2,h3⟩ hq
   refine Gg ?_;refine⟨.string e.person,h5.one rfl,Gg ?_⟩;refine⟨.string e.item,h5.one rfl,Gg ?_⟩;intro b6 w6 hn6;refine Gg ?_;refine Qd Qa (e:=ty100) rfl hn6.At rfl rfl rfl (by simp[Qg,Value.oneCell']) fun w7 h7 ho7 => ?_
   have h7:At w7 b6 100 (Qje (e.person,e.item)):=h7;have e6:=hn6.block;have hx57:Ext w5 w7:=ho7.ext hn6.ext (by rw[hn6.block];exact Nat.le_refl _);have z7:=hx57.size;replace h5:=h5.ext hx57;replace hms:=hms.ext hx57;replace hR:Qa1 dyV Qav 1 9 w7 S bm f L:=hR.keep fun i hi hs=>⟨hx57.block i hi,hs⟩
   replace hS:∀ k,S k→w.heap.size≤k∧k<w7.heap.size∧k≠bs:=fun k hk=>⟨(hS k hk).1,by have:=(hS k hk).2.1;omega,(hS k hk).2.2⟩
   have hx7:=hx5.trans hx57;clear ho7 hn6 hx57 hx5;refine Gg ?_;refine⟨Qje (e.person,e.item),⟨rfl,h7.all⟩,Gg ?_⟩;have hlk:=X7 Xde Qxe (e:=ty4) ty4_ok (cl := .same) Qm hms ((e.person,e.item):Xdi);rw[show ty4.zero = .bool false from rfl,Xq] at hlk;refine⟨_,hlk,?_⟩;generalize hsv:(Qe sn (e.person,e.item)).getD false=sv;refine Gg ?_;constructor
   · intro hq2
     have hq2:sv=false:=by simpa using hq2
     have hst:Qer s0 e=(Q7 s0.1 (e.person,e.item) true,Q7 s0.2 (onE e) ((Qe s0.2 (onE e)).getD [] ++ [e.item])):=by
      unfold Qer;rw[if_pos hq,if_neg (by rw[← hsn,hsv,hq2];simp)]
     rw[hst,← hf (onE e)] at htk;refine Gg ?_;refine⟨Qje (e.person,e.item),⟨rfl,h7.all⟩,Gg ?_⟩;refine Qq Xde Qxe hms ((e.person,e.item):Xdi) (.bool true) fun w8 hm8 ho8 => ?_
     rw[Q9] at hm8;have z8:=ho8.size;have h58:=ho8.at_ h5 (by omega);have hx8:=ho8.ext hx7 (by omega);replace hR:Qa1 dyV Qav 1 9 w8 S bm f L:=hR.keep fun i hi hs=>⟨ho8.block i (hS i hs).2.2,hs⟩
     clear hms ho8 h7 hlk h5;refine Gg ?_;refine⟨.string e.person,h58.one rfl,Gg ?_⟩;refine⟨.int .i64 e.at_,h58.one rfl,Gg ?_⟩;refine⟨e.at_.tdiv 86400,⟨by decide,wrap_eq rfl ⟨by omega,by omega⟩⟩,Gg ?_⟩;intro b9 w9 hn9;refine Gg ?_;refine Qd Qa (e:=ty102) rfl hn9.At rfl rfl rfl (by simp[Qg,Value.oneCell']) fun w10 h10 ho10 => ?_
     have h10:At w10 b9 102 (dyC (onE e)):=h10;have e9:=hn9.block;have hx810:Ext w8 w10:=ho10.ext hn9.ext (by rw[hn9.block];exact Nat.le_refl _);have z10:=hx810.size;replace h58:=h58.ext hx810;replace hm8:=hm8.ext hx810;replace hR:Qa1 dyV Qav 1 9 w10 S bm f L:=hR.keep fun i hi hs=>⟨hx810.block i hi,hs⟩
     have hx10:=hx8.trans hx810;clear ho10 hn9 hx810 hx8;refine Gg ?_;refine⟨dyC (onE e),⟨rfl,h10.all⟩,Gg ?_⟩;refine⟨.string e.item,h58.one rfl,Gg ?_⟩;intro b11 w11 hn11;refine Gg ?_;have e11:=hn11.block;have z11:=hn11.size;have hbm:=hR.map.lt;have hval:=hR.val (e:=ty60) rfl (onE e);have hro:=hR.own (onE e)
     have hrb:∀ i,(Qbn L (onE e)).1.map (·.block)=some i→S i∧i≠bm:=fun i hi=>by
      cases hq:(Qbn L (onE e)).1 with
      | none=>rw[hq] at hi;simp at hi
      | some a=>rw[hq] at hi;simp at hi;subst hi;exact hro.2 a hq
     refine Ql1 Xbp Q23 (e:=ty60) ty60_ok (hR.map.ext hn11.ext) (onE e) fun w12 s12 hm12 ho12 => ?_
     rw[hval] at hm12 ⊢;have z12:=ho12.size;have hown12:Own Qav 1 9 0 w12 (Qbn L (onE e)).1 (Qbn L (onE e)).2 (f (onE e)):=(hro.1.ext hn11.ext).keep fun a ha=>ho12.block _ (hro.2 a ha).2
     have hnew12:Sl Qav 1 w12 (some ⟨b11,0,none⟩) [e.item]:=Qcn (Qb6.new1 (x:=e.item) hn11) fun a ha=>by
      obtain rfl:(⟨b11,0,none⟩:Addr)=a:=by simpa using ha
      exact ho12.block _ (by simp only;omega)
     have hgx:=hfl (onE e);refine Gg ?_;refine Qs Qb6 (l:=f (onE e)) (news := [e.item]) rfl hown12 rfl hnew12 (by simp;omega) (Nat.zero_le _) fun Af cf wf hownf hgf hAf => ?_
     have zf:=hgf.size;have hmf:=hm12.keep (hgf.block bm (by omega) fun e=>(hrb bm e.symm).2 rfl);have hm8f:MapAt wf bs lnk (Xm Value.bool (Q7 sn (e.person,e.item) true)):=((hm8.ext hn11.ext).keep (ho12.block bs (by omega))).keep (hgf.block bs (by omega) fun e=>(hS bs (hrb bs e.symm).1).2.2 rfl);have hxf:Ext w wf:=Qr (ho12.ext (hx10.trans hn11.ext) (by omega)) hgf fun i hi=>(hS i (hrb i hi).1).1
     refine Gg ?_;refine Ql2 hmf _ fun w13 hm13 ho13 => ?_
     rw[Qct] at hm13;have hpush:=hR.push (k:=onE e) (r:=f (onE e) ++ [e.item]) (by simp) hn11.ext (fun i hi hib hir=>by rw[hgf.block i (by omega) hir,ho12.block i hib]) (by rw[← ho12.size];exact hAf) hownf hm13 ho13;have z13:=ho13.size;have hx13:=ho13.ext hxf (by omega);have hm813:=hm8f.keep (ho13.block bs (by omega));have hg13:w10.heap.size≤w13.heap.size:=by omega
     have hSS:∀ i,Grow S w10 i∧i<w13.heap.size→w.heap.size≤i∧i<w13.heap.size∧i≠bs:=fun i hi=>by
      rcases hi.1 with h | h
      · have:=hS i h;exact⟨this.1,hi.2,this.2.2⟩
      · exact⟨by omega,hi.2,by omega⟩
     generalize hrow:f (onE e) ++ [e.item]=row at htk hpush ⊢;clear hm13 ho13 hm12 ho12 hgf hownf hmf hm8f hval hown12 hnew12 h10 h58 hAf hn11;refine Gg ?_;refine⟨_,wrap_succ (by omega),Gg ?_⟩;refine⟨(k+1,Q7 sn (e.person,e.item) true,(fun i=>Grow S w10 i∧i<w13.heap.size),Qjt f (onE e) row,Q7 L (onE e) (Af,cf)),by simp only;omega,⟨by simp only;omega,hx13,by simp only;rw[htk];exact congrArg (fun q=>Q7 q (e.person,e.item) true) hsn,hm813,?_,?_,hpush.keep fun i hi hs=>⟨rfl,hs,hi⟩,hSS⟩,Rr⟩
     · intro x
       simp only;rw[htk];simp only;rw[Xg];unfold Qjt
       by_cases hx:x=onE e
       · rw[if_pos hx,if_pos hx];rfl
       · rw[if_neg hx,if_neg hx];exact hf x
     · simp only
       rw[htk];simp only;rw[Qcu,Qcu,hkL]
   intro hq2;have hq2:sv=true:=by simpa using hq2
   have hst:Qer s0 e=s0:=by
    unfold Qer;rw[if_pos hq,if_pos (by rw[← hsn,hsv,hq2])]
   rw[hst] at htk;refine Gg ?_;refine⟨_,wrap_succ (by omega),Gg ?_⟩
   exact⟨(k+1,sn,S,f,L),by simp only;omega,⟨by simp only;omega,hx7,by simp only;rw[htk];exact hsn,hms,by simp only;rw[htk];exact hf,by simp only;rw[htk];exact hkL,hR,hS⟩,Rr⟩
 intro hge;have hge:z.length≤k:=by simpa using hge
 rw[List.take_of_length_le hge] at hsn hf hkL
 have hLl:L.length=(Qag z).2.length:=by
  have:=congrArg List.length hkL
  simpa using this
 have hcl:=Q2o z;have hky:=Q87 (z:=z);have hrl:=Q2p z
 have hfl:∀ x,(f x).length≤z.length:=fun x=>by
  rw[hf]
  cases hq:Qe (Qag z).2 x with
  | none=>simp
  | some r =>
    have:=(hrl _ (Xt hq)).1
    simpa using this
 have hvk:(Qyo f L).map (·.1)=(Qag z).2.map (·.1):=by rw[← hkL];unfold Qyo;rw[List.map_map];rfl
 clear hrl hsn hms;refine Gg ?_;refine(Qsc bm w3).mono ?_;rintro _ w4 ⟨rfl,hc4,hx4⟩;refine Gg ?_;refine(Qm9 _ bm (Qyo f L) w4 hc4 (hR.map.ext hx4) (by unfold Qyo;rw[List.length_map];omega)).mono ?_;rintro _ w5 ⟨A5,c5,K,rfl,hp,hsK,hA5,hx5⟩;rw[hvk] at hp;have hKl:K.length=(Qag z).2.length:=by rw[hp.length_eq,List.length_map]
 have hKm:∀ d∈K,∃ y∈(Qag z).2,y.1=d:=fun d hd=>List.mem_map.1 (hp.mem_iff.1 hd)
 have hKd:∀ d∈K,0≤d.2∧d.2≤12725829:=fun d hd=>by
  obtain⟨y,hy,rfl⟩:=hKm d hd;obtain⟨e,he,_,h2⟩:=hky y hy;rw[h2]
  exact Q88 (hm e he)
 have hx35:=hx4.trans hx5;have hR5:Qa1 dyV Qav 1 9 w5 S bm f L:=hR.keep fun i hi hs=>⟨hx35.block i hi,hs⟩
 have hx05:=hx3.trans hx35;have z5:=hx05.size;clear hR hx4 hx5 hx35 hc4 hp hvk hky hx3;refine Gg ?_
 refine Qh Qa (fun(q:Nat×Option Addr×Nat×List CaR) w'=>q.1≤K.length∧Ext w5 w'∧q.2.2.2.length=q.1∧(∀ x∈q.2.2.2,∃ d∈K,x.1=d.1∧x.2.1=d.2*86400)∧Own caC 3 62 w5.heap.size w' q.2.1 q.2.2.1 q.2.2.2)
  (fun | (j,B,d,H) => [(4,.map (some bm)),(10,.slice B H.length d),(59,.slice A5 K.length c5),(60,.int .i64 K.length),(61,.int .i64 (j:Nat))]) (fun q=>K.length-q.1) (0,none,0,[]) ⟨Nat.zero_le _,Ext.refl _,rfl,by simp,Own.nil⟩ Rr ?_
 rintro ⟨j,B,d,H⟩ w6 ⟨hj,hx6,hHl,hHm,hownH⟩;simp only at hj hHl hHm hownH;refine Gg ?_;constructor
 · intro hlt
   have hlt:j<K.length:=by simpa using hlt
   obtain⟨a,rfl,hc⟩:=(hsK.ext hx6).get hlt;have hdK:=List.getElem_mem hlt;have hdb:=hKd _ hdK;generalize K[j]=x at hc hdK hdb;refine Gg ?_;refine⟨a,Ix,Gg ?_⟩;refine⟨dyC x,⟨rfl,hc⟩,Gg ?_⟩;intro b7 w7 hn7;refine Gg ?_;refine Qd Qa (e:=ty102) rfl hn7.At rfl rfl rfl (by simp[Qg,dyC,Value.oneCell']) fun w8 h8 ho8 => ?_
   have h8:At w8 b7 102 (dyC x):=h8;have hx68:Ext w6 w8:=ho8.ext hn7.ext (by rw[hn7.block];exact Nat.le_refl _);have hx8:=hx6.trans hx68;replace hownH:=hownH.ext hx68;clear ho8 hn7 hx68 hx6;refine Gg ?_;refine Dr .ext [0,1,2,3,4,5,6,7,8,9,10,11,12] [13,14] (Hh ?_);replace h8:At w8.drew b7 _ _:=h8;replace hx8:Ext w5 w8.drew:=hx8.drew;replace hownH:=hownH.ext (Ext.refl w8).drew;generalize w8.drew=w9 at h8 hx8 hownH ⊢;have hR9:Qa1 dyV Qav 1 9 w9 S bm f L:=hR5.keep fun i hi hs=>⟨hx8.block i hi,hs⟩
   refine⟨_,h8.one rfl,Hh ?_⟩;refine⟨_,h8.one rfl,Hh ?_⟩;refine⟨x.2*86400,wrap_eq rfl ⟨by omega,by omega⟩,Hh ?_⟩;refine⟨dyC x,⟨rfl,h8.all⟩,Hh ?_⟩;refine⟨_,hR9.look Xbp Q23 (e:=ty60) ty60_ok rfl x (Qid hR9.map.lt),Hh ?_⟩;refine(Qgi _ _ _ w9).mono ?_;rintro _ w10 ⟨b10,rfl,hb10,hx10⟩;refine⟨hx10,Hh ?_⟩;have hro:=hR9.own x;refine(Qge w10 b10 _ _ (f x) hb10 ((hro.1.sl Xi).ext hx10) (fun a ha=>⟨Nat.lt_of_lt_of_le (hro.1.block ha).2 hx10.size,Qqd hro.1 ha⟩) (by have:=hfl x;omega)).mono ?_;rintro _ w11 ⟨A11,c11,rfl,hown11,hx11⟩;refine⟨hx11,Hh ?_⟩;intro b12 w12 hn12;refine⟨hn12.ext,Hh ?_⟩;have hx12:=(hx8.trans hx10).trans (hx11.trans hn12.ext);have hownH12:=hownH.ext (hx10.trans (hx11.trans hn12.ext));refine Qs Xa8 (l:=H) (news := [(x.1,x.2*86400,(A11,(f x).length,c11))]) rfl hownH12 rfl (Xa8.new1 (x:=(x.1,x.2*86400,(A11,(f x).length,c11))) hn12) (by simp;omega) hx12.size fun Af cf wf hownf hgf hAf => ?_
   have hxf:=Qr hx12 hgf (Xy hownH12);generalize hH2:H ++ [(x.1,x.2*86400,(A11,(f x).length,c11))]=H2 at hownf ⊢;have hl2:H2.length=j+1:=by rw[← hH2,List.length_append,hHl];rfl
   have hm2:∀ y∈H2,∃ d∈K,y.1=d.1∧y.2.1=d.2*86400:=fun y hy=>by
    rw[← hH2] at hy;rcases List.mem_append.1 hy with hy | hy
    · exact hHm y hy
    · rw[List.mem_singleton.1 hy]
      exact⟨x,hdK,rfl,rfl⟩
   refine Gg ?_;refine⟨_,wrap_succ (by omega),Gg ?_⟩
   exact⟨(j+1,Af,cf,H2),by simp only;omega,⟨by simp only;omega,hxf,hl2,hm2,hownf⟩,Rr⟩
 intro hge2;have hge2:K.length≤j:=by simpa using hge2
 refine Gg ?_;refine⟨B,d,H,rfl,hownH.sl Q2n,by omega,fun x hx => ?_,fun a ha=>by have:=(hownH.block ha).1;omega,hx05.trans hx6⟩;obtain⟨y,hy,h1,h2⟩:=hHm x hx;obtain⟨v,hv,rfl⟩:=hKm y hy
 exact⟨v,hv,h1,h2⟩
end Go.Proofs.YtohkipkjleldpaaGreatDoor
