/- Several texts in one: Tf1, Tf2, Tf3, Bg5, Bs1, Bg7, Bg8. -/
import Derived.RangeFuncBox
import Derived.RangeFuncLeaves
import Derived.RangeFuncWrites
import Derived.Shelf.Abstract
import Derived.Test.YteabekcdcphjpaaGreatDoorGH
import Derived.Shelf.SlIter.Stops
import Derived.Test.YteabekcdcphjpaaGreatDoorGK
import Derived.Test.YteabekcdcphjpaaGreatDoorGXB
import Derived.Shelf.RegionOpen
import Derived.WalkKit
import Derived.OwnWalkIn
import Derived.TacticsInMore
import Derived.LoopNIn
import Derived.LoopIn
import Derived.Maps.AppendAt
import Derived.RangeFuncCalls
import Derived.RangeFuncNested
import Derived.Test.YteabekcdcphjpaaGreatDoorGJ
import Derived.Shelf.Strings.Builder1
set_option linter.unusedVariables false
set_option linter.unusedSimpArgs false
namespace Go.Proofs.YteabekcdcphjpaaGreatDoor
open Go.RowKit Go.Se
def Qca (tf:TypeId) (W W':World) : Prop := ∀ k v,Boxed W k tf v → Boxed W' k tf v
theorem Qca.trans {tf:TypeId} {A B C:World} (h:Qca tf A B) (k:Qca tf B C) : Qca tf A C := fun i v hi => k i v (h i v hi)
theorem Qca.putObj {tf:TypeId} {W:World} {l:Nat} {o:Obj} (o':Obj) (h:W.heap[l]? = some o) (ho:o.isCells = false) : Qca tf W (W.putObj l o') := fun k v hb => by
 refine (World.putObj_heap_other fun e => ?_).trans hb
 subst e
 have hb' : W.heap[k]? = _ := hb
 rw [h] at hb'
 cases hb'
 cases ho
theorem Qfd {B:Nat} {W:World} {l:Nat} (o':Obj) (hl:l < B) : KeepsFrom B W (W.putObj l o') := ⟨by simp,fun k o hB hk _ => (World.putObj_heap_other (by omega)).trans hk⟩
def Xbf {α:Type} (n:Nat) (P:Program) (g:Nat) (lb:Array Value) (encs:α → Array Value) (S:List α → Prop) (N:Nat) (tf:TypeId) (Rd:World → Prop) (w:World) : Prop :=
 ∀ (l:Nat) (J:List α → World → Prop) (W:World),Below w.heap.size w W → OwnFrom W.heap.size J → (∀ pre W1,J pre W1 → Rd W1) →
   (∀ pre x W1,J pre W1 → pre.length < N → YieldAt Fence.wide (n - 1) P l (encs x) W1 fun e W' => e = .returned (.bool true) ∧ J (pre ++ [x]) W' ∧ KeepsWalks W1 W' ∧ KeepsFrom W.heap.size W1 W' ∧ Qca tf W1 W') →
   J [] W → CallsIn Fence.wide n P g (#[.func (.yield l) #[] #[]] ++ lb) W fun e W' => (∃ v,e = .returned v) ∧ ∃ xs,S xs ∧ J xs W'
theorem Qlt {A B:World} {row:Option Nat} {k:Nat} (hg:A.grownBy B row) (hk:k < A.heap.size) (hr:∀ r,row = some r → r ≠ k) : B.heap[k]? = A.heap[k]? :=
 hg.block k hk fun e => hr k e.symm rfl
theorem Qe5 {W:World} {k:Nat} {o:Obj} (h:W.heap[k]? = some o) : k < W.heap.size := (Array.getElem?_eq_some_iff.1 h).1
theorem Q3d {α:Type} {P:Program} {n:Nat} {g:Operand} {ps:Array Tmp} {assign body:Code} {Q:Exit → Act → World → Prop} {a:Act} {w:World} {gf:Nat} {lb:Array Value}
 (hg:a.eval g = .func (.func gf) #[] lb) (eg:∀ args w,(callFunc gf args).run P w = .ok (.enter gf args) w) {encs:α → Array Value} {S:List α → Prop} {N:Nat} {tf:TypeId} {Rd:World → Prop}
 (hseq:Xbf (n - 1) P gf lb encs S N tf Rd w) (hps:∀ x,(encs x).size = ps.size) (I:List α → World → Prop) (hI:OwnFrom w.heap.size I) (hRd:∀ pre W,I pre W → Rd W) (h0:I [] w) (a1:α → Act)
 (hassign:∀ (l:Nat) (x:α) (W:World) (K:Act → World → Prop),K (a1 x) W → assign.wpIn (Fence.wide.inRound l) (n - 1 - 1) P (Exit.then K (fun _ _ _ => False)) { tmps := (ps.zip (encs x)).foldl (fun t (p,v) => t.setIfInBounds p v) a.tmps,defers := [] } W)
 (hbody:∀ (l:Nat) (pre:List α) (x:α) (W:World),I pre W → pre.length < N → body.wpIn (Fence.wide.inRound l) (n - 1 - 1) P (fun e _ W' => e = .normal ∧ KeepsOthers W W' ∧ Qca tf W W' ∧ I (pre ++ [x]) W') (a1 x) W)
 (hdone:∀ (xs:List α) (W:World),S xs → I xs W → W.heap[w.heap.size]? = some (.deferred (some [])) → Q .normal { a with defers := { target := .collected w.heap.size,args := #[] } :: a.defers } W) :
 (Code.rangeFunc g ps assign body).wpIn Fence.wide n P Q a w := by
 refine wpIn_rangeFunc fun fn hfn => ?_
 rw [show Fence.wide.round = none from rfl]
 obtain ⟨rec,hrec⟩ : ∃ rec : LoopState → Loop,rec = fun st => { state := st,pending := none,fn,tmps := a.tmps,params := ps,assign,body,defers := w.heap.size } := ⟨_,rfl⟩
 have hst : ∀ st,(rec st).state = st := fun st => by rw [hrec]
 obtain ⟨W1,hW1⟩ : ∃ W1,(w.alloc (.deferred (some []))).alloc (.loop (rec .ready)) = W1 := ⟨_,rfl⟩
 have z1 : W1.heap.size = w.heap.size + 2 := by rw [← hW1]; simp
 have hL : W1.heap[w.heap.size + 1]? = some (.loop (rec .ready)) := by
  rw [← hW1]
  have := World.alloc_heap_new (w.alloc (.deferred (some []))) (.loop (rec .ready))
  rwa [World.size_alloc] at this
 have hD : W1.heap[w.heap.size]? = some (.deferred (some [])) := by
  rw [← hW1]
  exact (Below.heap_alloc _ _ _ (by simp)).trans (World.alloc_heap_new w _)
 have hb1 : Below w.heap.size w W1 := by
  rw [← hW1]
  exact ((Below.refl _ w).alloc (Nat.le_refl _) _).alloc (by simp) _
 have h1 : I [] W1 := by rw [← hW1]; exact hI.alloc _ (hI.alloc _ h0)
 refine ⟨w.heap.size + 1,[{ target := .collected w.heap.size,args := #[] }],W1,{ target := .fn (.func gf) lb,args := #[.func (.yield (w.heap.size + 1)) #[] #[]] },W1,gf,#[.func (.yield (w.heap.size + 1)) #[] #[]] ++ lb,W1,?_,?_,?_,?_,?_,?_⟩
 · rw [← hW1,hrec]; exact run_enterLoop_outer _ _ _ _ _
 · simp only [resolve,hg]
   simp [go_sem]
 · intro _ _; trivial
 · simp [invoke,go_sem,eg]
 · intro h; cases h
 refine (hseq (w.heap.size + 1) (fun pre W => I pre W ∧ W.heap[w.heap.size + 1]? = some (.loop (rec .ready)) ∧ W.heap[w.heap.size]? = some (.deferred (some []))) W1 hb1 ?_ (fun pre W h => hRd pre W h.1) ?_ ⟨h1,hL,hD⟩).mono ?_
 · rintro s A B row ⟨hi,hl,hd⟩ hg' hr
   refine ⟨hI s A B row hi hg' fun r e => ⟨by have := (hr r e).1; omega,(hr r e).2⟩,?_,?_⟩
   · rw [Qlt hg' (Qe5 hl) fun r e => by have := (hr r e).1; omega]; exact hl
   · rw [Qlt hg' (Qe5 hd) fun r e => by have := (hr r e).1; omega]; exact hd
 · rintro pre x W ⟨hi,hl,hd⟩ hlen
   have hy := run_yield (P := P) (args := encs x) hl (by rw [hrec]; exact hps x)
   rw [hrec] at hy
   refine ⟨fn,_,assign,body,hy,roundIn_of_wpIn hfn (hassign _ x W _ ⟨_,run_beginRound hl (hst _),?_⟩)⟩
   have hlt := Qe5 hl
   obtain ⟨W2,hW2⟩ : ∃ W2,W.putObj (w.heap.size + 1) (.loop { rec .ready with state := .busy }) = W2 := ⟨_,rfl⟩
   have hl2 : W2.heap[w.heap.size + 1]? = some (.loop { rec .ready with state := .busy }) := by rw [← hW2]; exact World.putObj_heap_same hlt
   have hd2 : W2.heap[w.heap.size]? = some (.deferred (some [])) := by rw [← hW2]; exact (World.putObj_heap_other (by omega)).trans hd
   have hk2 : KeepsWalks W W2 := by rw [← hW2]; exact KeepsWalks.putObj _ hl rfl
   have hf2 : KeepsFrom W1.heap.size W W2 := by rw [← hW2]; exact Qfd _ (by omega)
   have hx2 : Qca tf W W2 := by rw [← hW2]; exact Qca.putObj _ hl rfl
   have hi2 : I pre W2 := by rw [← hW2]; exact hI.putObj _ hi (by omega) hl rfl
   rw [hW2]
   refine wpIn_mono (hbody _ pre x W2 hi2 hlen) ?_
   rintro e a3 W3 ⟨rfl,hk3,hb3,hi3⟩
   have hl3 := hk3.same _ _ hl2 rfl
   have hd3 := hk3.same _ _ hd2 rfl
   have hr3 := run_endRound (P := P) none hl3
   refine ⟨_,_,hr3,rfl,⟨hI.putObj _ hi3 (by omega) hl3 rfl,?_,(World.putObj_heap_other (by omega)).trans hd3⟩,(hk2.trans hk3.walks).trans (KeepsWalks.putObj _ hl3 rfl),(hf2.trans (hk3.from _)).trans (Qfd _ (by omega)),(hx2.trans hb3).trans (Qca.putObj _ hl3 rfl)⟩
   rw [World.putObj_heap_same (Qe5 hl3),hrec]
   rfl
 · rintro e W2 ⟨⟨v,rfl⟩,xs,hS,hi,hl,hd⟩
   have hend := run_endLoop (P := P) hl (by rw [hst]; simp)
   refine ⟨none,_,by rw [hend,hrec],?_⟩
   exact hdone xs _ hS (hI.putObj _ hi (by omega) hl rfl) ((World.putObj_heap_other (by omega)).trans hd)
open Go.Maps Go.Sort Go.Shelf Go.WideElems
attribute [local go_sem] Oper.semAt_some
theorem Quv {P:Program} {ρ7:Ren} (K:SlLaysZ.n10 P ρ7) {w:World} {Bm b:Nat} {L:List (ByteArray × Value)} (hc:w.cell? ⟨Bm,0,none⟩ = some (.map (some b))) (hm:MapAt w b Value.string L) (hk:∀ x ∈ L,x.1.size ≤ 1000000) (hl:L.length ≤ 1000000000) (n:Nat) (hn:1 ≤ n) :
 ∃ Q Sp,(∀ ss : List (List UInt8),Q ss → ss.Perm ((L.map (·.1)).map fun x => x.data.toList)) ∧ SeqStopsK Fence.wide n P (ρ7.f 10) #[.pointer (some ⟨Bm,0,none⟩)] (fun x => #[encStr x]) KeepsWalks Q Sp L.length w := by
 obtain ⟨es,hown,hes⟩ := Qpq (P := P) (k := ρ7.t 26) hm (fun a b e => by simpa using e) (fun x => .string x.data.toList) (fun x hx => Go.WideMaps.keyOf_string_mk K.t26 (by have := hk x hx; unfold maxLen; omega)) hl
 have hsz : Maps.size (.map es) = L.length := by
  have := hes.length_eq
  simp at this
  simpa [Maps.size] using this
 refine ⟨_,_,fun ss hp => ?_,hsz ▸ AnyZ.keys_stops K Fence.wide n trivial rfl hn Bm b _ _ w (cell_lt hc) hc hown⟩
 refine hp.1.trans ?_
 simp only [strKeys]
 refine (hes.map _).trans ?_
 rw [List.map_map,List.map_map]
 exact List.Perm.refl _
theorem Q13 {A B:World} (h:Ext A B) : A.grownBy B none := ⟨h.os,h.tape,h.output,h.size,fun k hk _ => h.block k hk⟩
theorem Qhh {β:Type} {B:Nat} {I:β → World → Prop} (h:OwnFrom B I) {s:β} {W W':World} (hs:I s W) (hx:Ext W W') : I s W' := h s W W' none hs (Q13 hx) fun r e => by cases e
theorem Qg0 {A B:World} (h:Ext A B) : KeepsWalks A B := ⟨h.size,fun k o hk _ => (h.block k (Qe5 hk)).trans hk⟩
theorem Qh2 {N:Nat} {A B:World} (h:Ext A B) : KeepsFrom N A B := ⟨h.size,fun k o _ hk _ => (h.block k (Qe5 hk)).trans hk⟩
theorem Qnk {N M:Nat} {A B:World} (h:KeepsFrom N A B) (hN:N ≤ M) : KeepsFrom M A B := ⟨h.size,fun k o hk => h.same k o (Nat.le_trans hN hk)⟩
theorem Q3i {n m k l:Nat} {P:Program} {f:FuncId} {tmps:Array Value} {assign body:Code} {w:World} {R:Ending → World → Prop} (h:RoundIn Fence.wide n P l f tmps assign body w R) : RoundIn (Fence.wide.inRound k) m P l f tmps assign body w R := ⟨h.1,fun c cs _ => h.2 c cs fun d hd => by cases hd⟩
structure RdC (S:Nat → Prop) (p:Nat) (half dn:Int) (s:Qch) (now:Int) (bc bn:Nat) (W:World) : Prop where
 ct : Qfj W S p half dn s
 bc : W.cell? ⟨bc,0,none⟩ = some (.pointer (some ⟨p,0,none⟩))
 bn : W.cell? ⟨bn,0,none⟩ = some (.int .i64 now)
def flC (s:Qch) (half now:Int) (pre:List (List UInt8)) : List Ct := ((pre.map fun x => (⟨x.toArray⟩ : ByteArray)).map fun k => (k,Xo s half k now)).filter fun x => decide (0 < x.2)
theorem Q5j (s:Qch) (half now:Int) (pre:List (List UInt8)) (x:List UInt8) : flC s half now (pre ++ [x]) = flC s half now pre ++ if 0 < Xo s half ⟨x.toArray⟩ now then [(⟨x.toArray⟩,Xo s half ⟨x.toArray⟩ now)] else [] := by
 unfold flC
 rw [List.map_append,List.map_append,List.filter_append]
 congr 1
 by_cases h : 0 < Xo s half ⟨x.toArray⟩ now
 · simp [h]
 · simp [h]
theorem Q5i {s:Qch} {half now:Int} {ss:List (List UInt8)} (h:ss.Perm ((s.map (·.1)).map fun x => x.data.toList)) : (flC s half now ss).Perm (Qbj s half now) := by
 unfold flC Qbj
 refine List.Perm.filter _ (List.Perm.map _ ?_)
 have := h.map fun x => (⟨x.toArray⟩ : ByteArray)
 rw [List.map_map] at this
 refine this.trans ?_
 rw [show ((fun x:List UInt8 => (⟨x.toArray⟩ : ByteArray)) ∘ fun x : ByteArray => x.data.toList) = id from funext fun x => rfl,List.map_id]
theorem Q75 (s:Qch) (half now:Int) (pre:List (List UInt8)) : (flC s half now pre).length ≤ pre.length := by
 unfold flC
 have := List.length_filter_le (fun x:Ct => decide (0 < x.2)) ((pre.map fun x => (⟨x.toArray⟩ : ByteArray)).map fun k => (k,Xo s half k now))
 simpa using this
set_option maxRecDepth 100000 in
set_option maxHeartbeats 4000000 in
theorem Quc (S:Nat → Prop) (p:Nat) (half dn:Int) (s:Qch) (now:Int) (hnow:0 ≤ now ∧ now ≤ 1099511627776) (ht:∀ key r,Qc s key = some r → ∀ x ∈ r,0 ≤ x.1 ∧ x.1 ≤ 1099511627776) (hk:∀ x ∈ s,x.1.size ≤ 1000000) (hl:s.length ≤ 1000000) (bc bn:Nat) (w:World) :
 Xbf 6 Tryz.prog 158 #[.pointer (some ⟨bc,0,none⟩),.pointer (some ⟨bn,0,none⟩)] (fun x:Ct => #[.string x.1,.int .i64 x.2]) (fun xs => xs.Perm (Qbj s half now)) s.length 233 (RdC S p half dn s now bc bn) w := by
 intro l J W hW hJ hR hY h0
 have hrd := hR [] W h0
 refine callsIn_of_wp_marks Tryz.func158 rfl trivial ?_ rfl
 simp only [Tryz.ntmps158,List.size_toArray,List.length_cons,List.length_nil,Nat.reduceAdd,Nat.reduceSub,Array.replicate_succ,Array.replicate_zero,List.push_toArray,List.append_toArray,List.nil_append,List.cons_append]
 have cy : (W.alloc (.cells #[.func (.yield l) #[] #[]] 233)).cell? ⟨W.heap.size,0,none⟩ = some (.func (.yield l) #[] #[]) := Qp0 _ _ _
 have hxa : Ext W (W.alloc (.cells #[.func (.yield l) #[] #[]] 233)) := (Below.refl _ _).alloc (Nat.le_refl _) _
 have hya : Boxed (W.alloc (.cells #[.func (.yield l) #[] #[]] 233)) W.heap.size 233 (.func (.yield l) #[] #[]) := Boxed.new _ _ _
 have cc := hxa.cell hrd.bc
 have cn := hxa.cell hrd.bn
 obtain ⟨bm,hct⟩ := hrd.ct
 have cs : (W.alloc (.cells #[.func (.yield l) #[] #[]] 233)).cell? ⟨p,2,none⟩ = some (.map (some bm)) := by
  have := hxa.cell (hct.head.one (k := 2) (v := .map (some bm)) rfl)
  rwa [Xa] at this
 gi_wp2_with (refine ⟨trivial,?_⟩; gi_at_call 159; refine (callsIn_wide.2 (Qfu Tryz.keys159 ⟨_,Tryz.func159,rfl,rfl⟩ (some bm) _).2).mono ?_; rintro e w2 ⟨v,rfl,rfl,hcell,hx2⟩)
 replace hcell : w2.cell? ⟨W.heap.size + 1,0,none⟩ = some (.map (some bm)) := by simpa using hcell
 have hx02 := hxa.trans hx2
 have hy2 : Boxed w2 W.heap.size 233 (.func (.yield l) #[] #[]) := (hx2.block _ hya.lt).trans hya
 obtain ⟨LK,hLK,hLKk⟩ := Qs7 hct.sums
 have hLl : LK.length = s.length := by have := congrArg List.length hLKk; simpa using this
 obtain ⟨Q,Sp,hQ,hseq⟩ := Quv { Tryz.keys159 with } hcell (hLK.ext hx02) (fun x hx => by
  have : x.1 ∈ s.map (·.1) := by rw [← hLKk]; exact List.mem_map.2 ⟨x,hx,rfl⟩
  obtain ⟨y,hy,he⟩ := List.mem_map.1 this
  rw [← he]; exact hk y hy) (by omega) 5 (by omega)
 refine wpIn_rangeFunc_ownG (α := List UInt8) rfl (by omega) (gf := 210) (lb := #[.pointer (some ⟨W.heap.size + 1,0,none⟩)]) rfl trivial (enters_of Tryz.func210 (by kernel_rfl) rfl) hseq walksK_t walksK_b (Below.refl _ _) (fun _ => rfl)
  (fun pre W' => J (flC s half now pre) W' ∧ Boxed W' W.heap.size 233 (.func (.yield l) #[] #[])) (fun _ _ _ => False)
  (OwnFrom.and (fun pre A B row hs hg hr => hJ (flC s half now pre) A B row hs hg fun r e => ⟨Nat.le_trans hx02.size (hr r e).1,(hr r e).2⟩) (Own.from (boxed_own (β := List (List UInt8)) W.heap.size 233 fun _ => .func (.yield l) #[] #[]) _))
  (fun _ _ _ _ _ hs _ _ => hs) ⟨Qhh hJ h0 hx02,hy2⟩
  (fun x => { tmps := #[.func (.yield l) #[] #[],.pointer (some ⟨bc,0,none⟩),.pointer (some ⟨bn,0,none⟩),.pointer (some ⟨W.heap.size,0,none⟩),.string ⟨x.toArray⟩,undef,.pointer (some ⟨p,0,none⟩),.pointer (some ⟨p,0,none⟩),.pointer (some ⟨p,2,none⟩),.map (some bm),.func (.func 210) #[] #[.pointer (some ⟨W.heap.size + 1,0,none⟩)],.string ⟨x.toArray⟩,undef,undef,undef,undef,undef,undef,undef,undef,undef,undef,undef,undef,undef],defers := [] }) ?assign ?body ?done ?stop
 case assign =>
  intro l x W K hK
  gi_wp2
  exact hK
 case body =>
  rintro l2 pre x W3 ⟨hj,hy3⟩ hlt
  have hrd3 := hR _ _ hj
  have c1 := hrd3.bc
  have c2 := hrd3.bn
  have c3 := hy3.cell
  have hat := Qi1 W3 S p half dn s hrd3.ct ⟨x.toArray⟩ now hnow (ht _)
  have hsn := Q5j s half now pre x
  have hfl := Q75 s half now pre
  generalize Xo s half ⟨x.toArray⟩ now = m at hat hsn
  by_cases hpos : 0 < m
  · gi_wp2_with (refine ⟨trivial,?_⟩; gi_at_call 15; refine (CallsIn.inRound l2 (callsIn_wide.2 hat.2)).mono ?_; rintro e W4 ⟨v,rfl,rfl,hx4⟩; have c4 := hx4.cell c3; have hJ4 := Qhh hJ hj hx4; obtain ⟨fn,tmps,assign,body,hy,hRr⟩ := hY (flC s half now pre) (⟨x.toArray⟩,m) W4 hJ4 (by omega))
    refine (Q3i hRr).mono ?_
    rintro e W5 ⟨rfl,hJ5,hk5,hf5,hb5⟩
    gi_wp2
    exact ⟨(Qh2 hx4).trans (Qnk hf5 hx02.size),(Qg0 hx4).trans hk5,by rw [hsn,if_pos hpos]; exact hJ5,hb5 _ _ ((hx4.block _ hy3.lt).trans hy3)⟩
  · gi_wp2_with (refine ⟨trivial,?_⟩; gi_at_call 15; refine (CallsIn.inRound l2 (callsIn_wide.2 hat.2)).mono ?_; rintro e W4 ⟨v,rfl,rfl,hx4⟩)
    refine ⟨fun _ h => (by cases h),?_⟩
    gi_wp2
    exact ⟨Qh2 hx4,Qg0 hx4,by rw [hsn,if_neg (by omega),List.append_nil]; exact Qhh hJ hj hx4,(hx4.block _ hy3.lt).trans hy3⟩
 case done =>
  rintro D xs W3 hD hS ⟨hj,_⟩ hK
  gi_wp2
  refine ⟨by simp,.inl ⟨_,_,rfl,run_takeDeferred hK,?_⟩⟩
  have hp := hQ xs hS
  rw [hLKk] at hp
  exact ⟨_,results_none rfl _ _ _,⟨_,rfl⟩,_,Q5i hp,OwnFrom.putObj hJ _ hj (Nat.le_trans hx02.size hD) hK rfl⟩
 case stop =>
  rintro D c pre W _ _ h _
  exact h.elim
end Go.Proofs.YteabekcdcphjpaaGreatDoor
namespace Go.Proofs.YteabekcdcphjpaaGreatDoor
open Go.RowKit Go.Se
open Go.Maps Go.Sort Go.Shelf Go.WideElems
attribute [local go_sem] Oper.semAt_some
theorem Qt8 (a b:Ct) (w:World) : Cal Tryz.prog 85 [.agg (Qd4 a).toArray,.agg (Qd4 b).toArray] w fun r w' => r = .int .i64 (Qyq a b) ∧ Gr w w' := by
 refine Fi Tryz.func85 rfl _ rfl rfl ?_;conv=>whnf
 intro b1 w1 hn1;conv=>whnf
 intro b2 w2 hn2
 have h1 := hn1.At.ext hn2.ext
 have h2 := hn2.At
 have hx := (Qn9 hn1).trans ((Qn9 hn2).trans (Gr.drew w2))
 conv=>whnf
 refine Dr .ext [0,1,2,3,5,6,7,8,4] [9,10,11,12] ?_;conv=>whnf
 replace h1 : At w2.drew b1 _ _ := h1
 replace h2 : At w2.drew b2 _ _ := h2
 generalize w2.drew = w3 at h1 h2 hx ⊢
 refine ⟨_,h2.one rfl,?_⟩;conv=>whnf
 refine ⟨_,h1.one rfl,?_⟩;conv=>whnf
 refine ⟨_,h1.one rfl,?_⟩;conv=>whnf
 refine ⟨_,h2.one rfl,?_⟩;conv=>whnf
 refine (Qnz _ _ _).mono ?_; rintro _ _ ⟨rfl,rfl⟩
 refine ⟨Ext.refl _,?_⟩;conv=>whnf
 refine (Qlh _ _ _).mono ?_; rintro _ _ ⟨rfl,rfl⟩;conv=>whnf
 intro b6 w6 hn6;conv=>whnf
 refine (Qu5 [Qg7 b.2 a.2,Qkf a.1 b.1] _ _ _ (Qcf (enc := Qku) Qct hn6) (by simp)).mono ?_
 rintro _ _ ⟨rfl,rfl⟩;conv=>whnf
 exact ⟨rfl,hx.trans (Qn9 hn6)⟩
theorem Qst (l:List Ct) (A:Option Addr) (c base:Nat) (w:World) (hown:Own Qd4 2 98 base w A c l) (hl:l.length < 1000000) :
 Cal Tryz.prog 84 [.slice A l.length c,.func (.func 85) #[] #[]] w fun r w' => r = .tuple #[] ∧ ∃ F,F.Perm l ∧ Srt Ql5 F ∧ Sl Qd4 2 w' A F ∧ ∀ w0,Ext w0 w → w0.heap.size ≤ base → Ext w0 w' := by
 have := Qsu Tryz.sortCount (by decide) Tryz.isAgg98 Tryz.sizeOf98 Qko Qpa Qyq (by rw [Qpv]; exact Qxb) ⟨_,Tryz.func84,rfl,rfl⟩ (enters_of Tryz.func85 (by kernel_rfl) rfl) l A c base w hown hl (fun x y w' _ => Qt8 x y w') (cb := #[])
 rw [Qpv] at this
 exact this
theorem Q9c : Tryz.prog.underlying 53 = some (.slice 98) := by kernel_rfl
theorem Qrj (x:List Ct) (A:Option Addr) (c:Nat) (w:World) (hs:Sl Qd4 2 w A x) (hl:x.length < 1000000) :
 Cal Tryz.prog 89 [.slice A x.length c] w fun r w' => ∃ A' c',r = .slice A' x.length c' ∧ Own Qd4 2 98 w.heap.size w' A' c' x ∧ Ext w w' := by
 refine Fi Tryz.func89 rfl _ rfl rfl ?_;conv=>whnf
 refine ⟨_,Qds Q9c A _ _ _ _,?_⟩;conv=>whnf
 constructor
 · intro h
   obtain rfl : A = none := by simpa using h
   have hx : x = [] := by
    cases x with
    | nil => rfl
    | cons e x => obtain ⟨a,ha,_⟩ := hs 0 e rfl; cases ha
   subst hx
   conv=>whnf
   exact ⟨none,0,rfl,Own.nil,Ext.refl _⟩
 · intro h
   conv=>whnf
   intro b1 w1 hn1;conv=>whnf
   have o1 := Q6f.made (base := w.heap.size) hn1 (Nat.le_refl _)
   refine Qcl Q6f (l := []) (news := x) rfl o1 rfl (hs.ext hn1.ext) (by simp; omega) hn1.ext.size fun A2 c2 w2 hown2 hg2 hA2 => ?_
   have hx2 := Qag hn1.ext hg2 (Qg3 o1)
   rw [List.nil_append] at hown2 ⊢
   conv=>whnf
   exact ⟨A2,c2,rfl,hown2,hx2⟩
theorem Qrm (p:Nat) (now:Int) (w:World) : Cal Tryz.prog 83 [.pointer (some ⟨p,0,none⟩),.int .i64 now] w fun r w' => r = .func (.func 158) #[] #[.pointer (some ⟨w.heap.size,0,none⟩),.pointer (some ⟨w.heap.size + 1,0,none⟩)] ∧ w'.cell? ⟨w.heap.size,0,none⟩ = some (.pointer (some ⟨p,0,none⟩)) ∧ w'.cell? ⟨w.heap.size + 1,0,none⟩ = some (.int .i64 now) ∧ Ext w w' := by
 refine Fi Tryz.func83 rfl _ rfl rfl ?_;conv=>whnf
 intro b1 w1 hn1;conv=>whnf
 intro b2 w2 hn2;conv=>whnf
 have e1 := hn1.block; have e2 := hn2.block; have s1 := hn1.size
 subst e1
 have e2 : b2 = w.heap.size + 1 := by omega
 subst e2
 exact ⟨rfl,(hn1.At.ext hn2.ext).one0,hn2.At.one0,hn1.ext.trans hn2.ext⟩
theorem Q95 : (Tryz.prog.info? 98).map (fun i => (i.zero,i.size,i.bytes)) = some (some (.agg #[.string ⟨#[]⟩,.int .i64 0]),2,24) := by kernel_rfl
theorem Q8q {α:Type} {enc:α → List Value} {sz:Nat} {te:TypeId} {base:Nat} {w:World} {A:Option Addr} {c:Nat} {l:List α} (h:Own enc sz te base w A c l) : w.ownsRow base te sz (.slice A l.length c) l.length (l.flatMap enc) := by
 unfold Own at h
 exact h
theorem Q3l {α:Type} {enc:α → List Value} {sz:Nat} {te:TypeId} {base:Nat} {w:World} {A:Option Addr} {c:Nat} {l:List α} (h:w.ownsRow base te sz (.slice A l.length c) l.length (l.flatMap enc)) : Own enc sz te base w A c l := by
 unfold Own
 exact h
theorem Qfj.ext {w w1:World} {S:Nat → Prop} {p:Nat} {half n:Int} {s:Qch} (h:Qfj w S p half n s) (hx:Ext w w1) : Qfj w1 S p half n s := h.keep fun k hk hs => ⟨hx.block k hk,hs⟩
theorem Qj6 {b1 b2 e size:Nat} {W:World} {v:Value} {n:Nat} {xs:List Value} (h:W.ownsRow b1 e size v n xs) (hb:b2 ≤ b1) : W.ownsRow b2 e size v n xs := by
 refine ⟨h.1,?_⟩
 rcases h.2 with h2 | ⟨g,cap,cur,h2,h3,h4⟩
 · exact .inl h2
 · exact .inr ⟨g,cap,cur,h2,by omega,h4⟩
theorem Q1p (w:World) (a b:Value) (t:TypeId) : ∀ (j:Nat) u,[a,b][j]? = some u → (w.alloc (.cells #[a,b] t)).cell? ((⟨w.heap.size,0,none⟩ : Addr).add j) = some u := by
 intro j u hj
 have h : At (w.alloc (.cells #[a,b] t)) w.heap.size t [a,b] := heap_alloc_new w _
 rw [Xa,h.cell,hj]
theorem Sl.part {α:Type} {enc:α → List Value} {sz:Nat} {w:World} {A:Option Addr} {l:List α} (h:Sl enc sz w A l) (k:Nat) : Sl enc sz w A (l.take k) := fun i x hi => by
 rw [List.getElem?_take] at hi
 split at hi
 · exact h i x hi
 · cases hi
set_option maxRecDepth 100000 in
set_option maxHeartbeats 4000000 in
theorem Qqy (w:World) (S:Nat → Prop) (p:Nat) (half dn:Int) (s:Qch) (h:Qfj w S p half dn s) (now:Int) (hnow:0 ≤ now ∧ now ≤ 1099511627776) (n:Int) (hn:1 ≤ n ∧ n ≤ 9223372036854775807) (ht:∀ key r,Qc s key = some r → ∀ x ∈ r,0 ≤ x.1 ∧ x.1 ≤ 1099511627776) (hk:∀ x ∈ s,x.1.size ≤ 1000000) (hl:s.length < 1000000) :
 Cal Tryz.prog 24 [.pointer (some ⟨p,0,none⟩),.int .i64 now,.int .i64 n] w fun r w' => ∃ A c,r = .slice A ((Qb9 (Qbj s half now)).take n.toNat).length c ∧ Sl Qd4 2 w' A ((Qb9 (Qbj s half now)).take n.toNat) ∧ (∀ a,A = some a → w.heap.size ≤ a.block) ∧ Ext w w' := by
 obtain ⟨i0,hi,hz0,hz1,hz2⟩ := info_parts Q95
 refine ⟨⟨_,Tryz.func24,rfl,rfl⟩,?_⟩
 refine (callsIn_wide (n := 7)).1 ?_
 refine callsIn_of_wp_marks Tryz.func24 rfl trivial ?_ rfl
 simp only [Tryz.ntmps24,List.size_toArray,List.length_cons,List.length_nil,Nat.reduceAdd,Nat.reduceSub,Array.replicate_succ,Array.replicate_zero,List.push_toArray,List.append_toArray,List.nil_append,List.cons_append]
 have hn0 : ¬ n ≤ 0 := by omega
 have bL := Boxed.new w 53 (.slice none 0 0)
 have hxL : Ext w (w.alloc (.cells #[.slice none 0 0] 53)) := (Below.refl _ _).alloc (Nat.le_refl _) _
 gi_wp2_with (refine ⟨trivial,?_⟩; gi_at_call 83; refine (callsIn_wide.2 (Qrm p now _).2).mono ?_; rintro e w2 ⟨v,rfl,rfl,hc1,hc2,hx2⟩)
 replace hc1 : w2.cell? ⟨w.heap.size + 1,0,none⟩ = some (.pointer (some ⟨p,0,none⟩)) := by simpa using hc1
 replace hc2 : w2.cell? ⟨w.heap.size + 1 + 1,0,none⟩ = some (.int .i64 now) := by simpa using hc2
 have hx02 := hxL.trans hx2
 have bL2 : Boxed w2 w.heap.size 53 (.slice none 0 0) := (hx2.block _ bL.lt).trans bL
 refine Q3d (α := Ct) (gf := 158) (lb := #[.pointer (some ⟨w.heap.size + 1,0,none⟩),.pointer (some ⟨w.heap.size + 1 + 1,0,none⟩)]) rfl (enters_of Tryz.func158 (by kernel_rfl) rfl) (Quc S p half dn s now hnow ht hk (by omega) _ _ w2) (fun _ => rfl)
  (fun pre W' => (∃ v,Boxed W' w.heap.size 53 v ∧ W'.ownsRow w2.heap.size 98 2 v pre.length (pre.flatMap Qd4) ∧ True) ∧ Ext w W' ∧ W'.cell? ⟨w.heap.size + 1,0,none⟩ = some (.pointer (some ⟨p,0,none⟩)) ∧ W'.cell? ⟨w.heap.size + 1 + 1,0,none⟩ = some (.int .i64 now) ∧ w2.heap.size ≤ W'.heap.size)
  (OwnFrom.and (Own.from (holdsRow_own (β := List Ct) w2.heap.size w.heap.size 53 98 2 (fun pre => pre.length) (fun pre => pre.flatMap Qd4) fun _ _ => True) _) (OwnFrom.and (ownFrom_below (β := List Ct) (Nat.le_refl _) hx02.size) (OwnFrom.and (fun _ A B row hs hg hr => cell_kept hs hg fun r e => (hr r e).2) (OwnFrom.and (fun _ A B row hs hg hr => cell_kept hs hg fun r e => (hr r e).2) fun _ A B row hs hg hr => Nat.le_trans hs hg.size))))
  (fun pre W' hI => ⟨Qfj.ext h hI.2.1,hI.2.2.1,hI.2.2.2.1⟩)
  ⟨⟨_,bL2,World.ownsRow_nil _ _ _ _,trivial⟩,hx02,hc1,hc2,Nat.le_refl _⟩
  (fun x => { tmps := #[.pointer (some ⟨p,0,none⟩),.int .i64 now,.int .i64 n,undef,undef,undef,.slice none 0 0,.pointer (some ⟨w.heap.size,0,none⟩),.string x.1,.int .i64 x.2,.int .i64 n,.bool false,.pointer (some ⟨p,0,none⟩),.int .i64 now,.func (.func 158) #[] #[.pointer (some ⟨w.heap.size + 1,0,none⟩),.pointer (some ⟨w.heap.size + 1 + 1,0,none⟩)],.string x.1,.int .i64 x.2,undef,undef,undef,undef,undef,undef,undef,undef,undef,undef,undef,undef,undef,undef,undef],defers := [] }) ?assign ?body ?done
 case assign =>
  intro l x W K hK
  gi_wp2
  exact hK
 case body =>
  rintro l pre x W3 ⟨⟨v,hv,hrow,_⟩,hx3,h1,h2,hsz⟩ hlt
  have hc := hv.cell
  have hwl := hv.lt
  have s3 := hx3.size
  have hfl : (pre ++ [x]).flatMap Qd4 = pre.flatMap Qd4 ++ [.string x.1,.int .i64 x.2] := by rw [List.flatMap_append]; rfl
  gi_wp2_with (gi_at_builtin; refine wpListIn_append_own _ rfl _ _ 53 rfl w2.heap.size 98 i0 (.agg #[.string ⟨#[]⟩,.int .i64 0]) 2 24 Tryz.underlying53 hi hz0 hz1 hz2 rfl (by decide) _ _ _ rfl (hrow.alloc _) ⟨W3.heap.size,0,none⟩ 1 1 [.string x.1,.int .i64 x.2] rfl rfl (Q1p _ _ _ _) (by simp [Value.oneCell']) (by unfold maxLen; omega) (by omega) (by simp; omega) ?_; intro v' w4 hown' hgrow _; obtain ⟨g',cap',rfl⟩ := ownsRow_succ hown'; obtain ⟨hv1,hv2,hr2,hk2,hb2⟩ := hv.appended (by decide) (Qj6 hrow hx02.size) s3 (Nat.le_refl _) (Qj6 hown' hx02.size) hgrow; have hc1 := hv1.cell; have hf1 := hv1.frozen)
  have hrb : ∀ k,v.ownBlock = some k → w2.heap.size ≤ k := fun k hk => (hrow.lt k hk).1
  have hb2l := cell_lt hc2
  have hsame : ∀ k,k < w2.heap.size → w4.heap[k]? = W3.heap[k]? := fun k hk => by
   refine (hgrow.block k (by simp; omega) fun e => ?_).trans (((Below.refl _ _).alloc (Nat.le_refl _) _ : Ext W3 _).block k (by omega))
   have := hrb k e.symm
   omega
  have hg4 := hgrow.size
  simp only [World.size_alloc] at hg4
  refine ⟨fun k u hb => ?_,⟨_,hv2,hown'.kept (grownBy_setCell' w4 w.heap.size _) (.inr (hv1.not_row (by decide) hown').symm)⟩,Below.trans hx3 hb2,?_,?_,by omega⟩
  · have hne : k ≠ w.heap.size := fun e => by
     subst e
     have q1 : W3.heap[w.heap.size]? = _ := hb
     have q2 : W3.heap[w.heap.size]? = _ := hv
     rw [q1] at q2
     simp at q2
    exact Boxed.other ((hb.alloc _).kept hgrow (hb.not_row (by decide) hrow)) hne _
  · rw [World.cell?_of_block (w := W3) (hsame _ (by simp only at hb2l ⊢; omega))]; exact h1
  · rw [World.cell?_of_block (w := W3) (hsame _ (by simp only at hb2l ⊢; omega))]; exact h2
 case done =>
  rintro ys W3 hS ⟨⟨v,hv,hrow,_⟩,hx3,_,_,hsz⟩ hK
  obtain ⟨A,c,rfl,hown⟩ := Qdj (enc := Qd4) (l := ys) hrow rfl rfl
  have hyl : ys.length ≤ s.length := by
   rw [hS.length_eq]
   unfold Qbj
   refine Nat.le_trans (List.length_filter_le _ _) ?_
   rw [List.length_map,List.length_map]
   exact Nat.le_refl _
  have hown1 : Own Qd4 2 98 (w2.heap.size + 1) W3 A c ys := by
   refine Q3l ⟨hrow.1,?_⟩
   rcases hrow.2 with h2 | ⟨g,cap,cur,h2,h3,h4,h5⟩
   · exact .inl h2
   · refine .inr ⟨g,cap,cur,h2,?_,h4,h5⟩
     rcases Nat.lt_or_ge w2.heap.size g with q | q
     · exact q
     · obtain rfl : g = w2.heap.size := by omega
       rw [hK] at h4
       cases h4
  have hc := hv.cell
  have hwl : w.heap.size < w2.heap.size := Nat.lt_of_lt_of_le (Nat.lt_succ_self _) (by have := cell_lt hc2; simp only at this; omega)
  gi_wp2_with (refine ⟨trivial,?_⟩; gi_at_call 84; refine (callsIn_wide.2 (Qst ys A c (w2.heap.size + 1) W3 hown1 (by omega)).2).mono ?_; rintro e w5 ⟨v5,rfl,rfl,F,hFp,hFs,hFsl,hfr⟩; have hk5 : ∀ k,k ≤ w2.heap.size → w5.heap[k]? = W3.heap[k]? := (fun k hk => by
   have q0 : (W3.heap.extract 0 (w2.heap.size + 1)).size = w2.heap.size + 1 := by simp; have := Qe5 hK; omega
   have q1 : Ext { W3 with heap := W3.heap.extract 0 (w2.heap.size + 1) } W3 := ⟨rfl,rfl,rfl,by show (W3.heap.extract 0 (w2.heap.size + 1)).size ≤ _; rw [q0]; exact Qe5 hK,fun i hi => by
    have hi : i < (W3.heap.extract 0 (w2.heap.size + 1)).size := hi
    show W3.heap[i]? = (W3.heap.extract 0 (w2.heap.size + 1))[i]?
    rw [Array.getElem?_extract]
    rw [q0] at hi
    simp [hi]
    omega⟩
   have q2 := (hfr _ q1 (Nat.le_of_eq q0)).block k (by show k < (W3.heap.extract 0 (w2.heap.size + 1)).size; rw [q0]; omega)
   exact q2.trans (q1.block k (by show k < (W3.heap.extract 0 (w2.heap.size + 1)).size; rw [q0]; omega)).symm); have hK5 := (hk5 _ (Nat.le_refl _)).trans hK; have hv5 : Boxed w5 w.heap.size 53 (.slice A ys.length c) := (hk5 _ (by omega)).trans hv; have hc5 := hv5.cell)
  · rename_i hb _ happ
    have hFl : F.length = ys.length := hFp.length_eq
    have hFeq : F = Qb9 (Qbj s half now) := Qqp (hFp.trans hS) hFs
    obtain ⟨m,hm⟩ : ∃ m,m = (min n (ys.length : Int)).toNat := ⟨_,rfl⟩
    have hml : (F.take n.toNat).length = m := by
     rw [List.length_take]
     omega
    have s5 : w2.heap.size < w5.heap.size := Qe5 hK5
    rw [← hm,← hml]
    refine ⟨trivial,?_⟩
    gi_at_call 89
    refine (callsIn_wide.2 (Qrj (F.take n.toNat) A c w5 (hFsl.part _) (by omega)).2).mono ?_
    rintro e w6 ⟨v6,rfl,A6,c6,rfl,hown6,hx6⟩
    refine happ _ _ ?_
    gi_wp2
    have hx5 := hfr w hx3 (by omega)
    have hK6 := (hx6.block _ s5).trans hK5
    refine ⟨by simp,.inl ⟨_,_,rfl,run_takeDeferred hK6,?_⟩⟩
    rw [← hFeq]
    have ho := Q3l (l := F.take n.toNat) (ownsRow_putObj (Q8q hown6) (.deferred none) hK6 rfl)
    exact ⟨_,results_tmp rfl _ _ _,_,rfl,A6,c6,rfl,ho.sl Qko,fun a ha => Nat.le_trans hx5.size (Qg3 hown6 _ (by rw [ha]; rfl)),Below.trans (hx5.trans hx6) (belowK_b (w := w) (Nat.le_refl _) w6 w2.heap.size _ _ (by omega) hK6 rfl rfl)⟩
  case isFalse hb =>
   exfalso
   apply hb
   have := hown.le
   omega
end Go.Proofs.YteabekcdcphjpaaGreatDoor
namespace Go.Proofs.YteabekcdcphjpaaGreatDoor
open Go.Se Go.RowKit Go.Shelf
theorem Q50 : Qox Tryz.prog 48 := ⟨_,Tryz.func48,rfl,rfl⟩
theorem Qi7 (n:Int) (w:World) (hg:Gl w) (h0:0 ≤ n) (h1:n ≤ 9223372036854775807) : Cal Tryz.prog 48 [.int .i64 n,.int .i64 10] w fun r w' => r = .string (nB n) ∧ Ext w w' := by
 refine Qbq Q50 (Tryz.strconv_FormatInt_10 n (by omega) (by omega) w hg.pow10) ?_
 rintro w' ⟨k,os,rfl⟩
 refine ⟨?_,(Qlo w k).trans (Qhz _ _)⟩
 have : n = (n.toNat : Int) := by omega
 unfold nB Qug bytesOf
 rw [← Lib.itoa_nonneg,← this]
theorem Q0o {z:List Ev} (hm:∀ e ∈ z,Xj e = true) : (∀ x ∈ Qgw (z.filter wpB),x.1.size ≤ 1000000) ∧ (Qgw (z.filter wpB)).length ≤ z.length ∧ ∀ key r,Qc (Qgw (z.filter wpB)) key = some r → ∀ x ∈ r,0 ≤ x.1 ∧ x.1 ≤ 1099511627776 := by
 have h1 := Qui (z.filter wpB)
 have h2 := List.length_filter_le wpB z
 refine ⟨fun x hx => ?_,by omega,fun key r hr x hx => ?_⟩
 · obtain ⟨e,he,hi⟩ := h1.2 x hx
   have := Qab (Qee hm he).2
   rw [← hi]
   omega
 · obtain ⟨e,he,ha,_⟩ := Q5e _ key r hr x hx
   rw [← ha]
   exact Qr7 (Qtj hm e he)
set_option maxHeartbeats 4000000 in
theorem Q4e {w:World} {B b:Nat} {g:Option Nat} {T:Nat → Prop} {p:Nat} {c:Cfg} {z:List Ev} {s:ByteArray} (h:Dg w B b g T p c z s) (hcf:Qjv c = true) (hz:z.length < 1000) (now:Int) (hnow:0 ≤ now ∧ now ≤ 1099511627776) (hl:s.size + ((X5 ((Qb9 (Qbj (Qe c.width z).ds (Qq c.half) now)).map Qsi)).size + (X5 ((Qat (Qe c.width z).ps (0 / Qq c.width) ((1099511627776 + c.width) / Qq c.width)).map (Qf0 z c))).size) ≤ 140737488355328) :
 Cal Tryz.prog 42 [.pointer (some ⟨p,0,none⟩),.int .i64 now,.func (.func 36) #[] #[.pointer (some ⟨b,0,none⟩)]] w fun r w' => r = .tuple #[] ∧ ∃ g',Dg w' B b g' T p c z (s ++ X5 ((Qb9 (Qbj (Qe c.width z).ds (Qq c.half) now)).map Qsi) ++ X5 ((Qat (Qe c.width z).ps (0 / Qq c.width) ((1099511627776 + c.width) / Qq c.width)).map (Qf0 z c))) ∧ Wrt b g w g' w' := by
 obtain ⟨v,T0,col,q,A,n,cap,any,last,hL,hm,_⟩ := h.wql
 obtain ⟨hc1,hc2,_⟩ := Q1r hcf
 have hds := (Qcs c.width z).1
 have hps := (Qcs c.width z).2.1
 have hd := hL.cts.dec
 rw [hds] at hd hl ⊢
 rw [hps] at hl ⊢
 obtain ⟨hk1,hk2,hk3⟩ := Q0o hm
 have hin : ∀ x ∈ Qb9 (Qbj (Qgw (z.filter wpB)) (Qq c.half) now),Qi x.1 = true ∧ 0 < x.2 ∧ x.2 ≤ 1099511627776 := fun x hx => Q4h hm hz (Qmw.1 hx)
 have hln := Qx0 z (Qq c.half) now
 rw [← Qmv] at hln
 refine Fi Tryz.func42 rfl _ rfl rfl ?_;conv=>whnf
 refine ⟨_,hL.head.one rfl,?_⟩; (conv=>whnf);repeat(refine Sg ?_;(conv=>whnf))
 refine (Qqy w _ q.pd _ _ _ hd now hnow 9223372036854775807 (by decide) hk3 hk1 (by omega)).mono ?_
 rintro _ w1 ⟨A1,c1,rfl,hs1,hA1,hx1⟩
 rw [List.take_of_length_le (by have:(9223372036854775807:Int).toNat = 9223372036854775807 := rfl; omega)] at hs1 ⊢
 have hD1 := h.ext hx1
 have hsl1 : SlS Qd4 2 w1 b g A1 (Qb9 (Qbj (Qgw (z.filter wpB)) (Qq c.half) now)) := ⟨hs1,fun hne a ha => ⟨h.bl.safe_new (hA1 a ha),Qso hs1 Q4l hne ha⟩⟩
 have hw1 : Wrt b g w g w1 := Wrt.ext hx1
 clear hs1 hA1 hd hL
 generalize hNs : Qb9 (Qbj (Qgw (z.filter wpB)) (Qq c.half) now) = L at hsl1 hin hln hl ⊢
 have h0 : Dg w1 B b g T p c z (s ++ X5 ((L.take 0).map Qsi)) := by
  show Dg w1 B b g T p c z (s ++ X5 [])
  rw [Qbx,Qcm]
  exact hD1
 (conv=>whnf);repeat(refine Sg ?_;(conv=>whnf))
 refine Qg Qa (fun (x:Nat × Option Nat) w' => x.1 ≤ L.length ∧ Dg w' B b x.2 T p c z (s ++ X5 ((L.take x.1).map Qsi)) ∧ Wrt b g w x.2 w' ∧ SlS Qd4 2 w' b x.2 A1 L)
  (fun | (k,_) => [(0,.pointer (some ⟨p,0,none⟩)),(1,.int .i64 now),(2,.func (.func 36) #[] #[.pointer (some ⟨b,0,none⟩)]),(16,.slice A1 L.length c1),(17,.int .i64 L.length),(18,.int .i64 (k:Nat))]) (fun x => L.length - x.1) (0,g) ⟨Nat.zero_le _,h0,hw1,hsl1⟩ ⟨rfl,rfl,rfl,rfl,rfl,rfl,trivial⟩ ?_
 clear h0 hw1 hsl1 hD1 hx1
 rintro ⟨k,g1⟩ w2 ⟨hk,hD,hw,hsl⟩
 simp only at hk hD hw hsl
 conv=>whnf
 constructor
 · intro hlt
   have hlt : k < L.length := by simpa using hlt
   obtain ⟨a,rfl,hca⟩ := hsl.sl.get hlt
   have htk := Xv Qsi L k hlt
   have hpk := Qbu Qsi L (k + 1)
   rw [htk,ByteArray.size_append] at hpk
   have hib := hin L[k] (List.getElem_mem hlt)
   generalize L[k] = x at hca htk hpk hib
   have hth : Qsi x = Qdb [Qir,x.1,nB x.2] := rfl
   rw [hth] at htk hpk
   generalize X5 ((L.take k).map Qsi) = u at htk hpk hD
   (conv=>whnf);repeat(refine Sg ?_;(conv=>whnf))
   refine ⟨a,⟨rfl,by omega,by omega⟩,?_⟩; (conv=>whnf);repeat(refine Sg ?_;(conv=>whnf))
   refine ⟨Qd4 x,⟨rfl,hca⟩,?_⟩; (conv=>whnf);repeat(refine Sg ?_;(conv=>whnf))
   intro b8 w4 hn4; (conv=>whnf);repeat(refine Sg ?_;(conv=>whnf))
   refine Qj Qa (e := ty98) rfl hn4.At rfl rfl rfl (by simp [Qm,Qd4,Value.oneCell']) fun w5 h5 ho5 => ?_
   have h5 : At w5 b8 98 (Qd4 x) := h5
   have hx25 : Ext w2 w5 := ho5.ext hn4.ext (by rw [hn4.block]; exact Nat.le_refl _)
   clear ho5 hn4
   (conv=>whnf);repeat(refine Sg ?_;(conv=>whnf))
   refine Dr .ext [0,1,2,3,4,5,6] [7] ?_;conv=>whnf
   have hxd : Ext w5 w5.drew := (Ext.refl w5).drew
   replace hx25 := hx25.trans hxd
   replace h5 := h5.ext hxd
   clear hxd
   generalize w5.drew = w6 at hx25 h5 ⊢
   refine ⟨.string x.1,h5.one rfl,?_⟩;conv=>whnf
   refine ⟨.int .i64 x.2,h5.one rfl,?_⟩;conv=>whnf
   have hD6 := hD.ext hx25
   refine (Qi7 x.2 w6 hD6.gl (by omega) (by omega)).mono ?_
   rintro _ w7 ⟨rfl,hx7⟩
   refine ⟨hx7,?_⟩;conv=>whnf
   have hx27 := hx25.trans hx7
   have hD7 := hD.ext hx27
   intro b10 w10 hn10
   refine ⟨hn10.ext,?_⟩;conv=>whnf
   refine (hD7.line [Qir,x.1,nB x.2] rfl hn10 (by simp) (by rw [ByteArray.size_append,ByteArray.size_append]; omega) 3 rfl).mono ?_
   rintro _ w11 ⟨rfl,g11,hD11,hw11⟩
   rw [ByteArray.append_assoc,← htk] at hD11
   (conv=>whnf);repeat(refine Sg ?_;(conv=>whnf))
   refine ⟨_,wrap_succ (by omega),?_⟩; (conv=>whnf);repeat(refine Sg ?_;(conv=>whnf))
   have hw2 : Wrt b g1 w2 g11 w11 := (Wrt.ext hx27).trans hw11
   exact ⟨(k + 1,g11),by simp only; omega,⟨by simp only; omega,hD11,hw.trans hw2,hsl.wrt hw2⟩,⟨rfl,rfl,rfl,rfl,rfl,rfl,trivial⟩⟩
 · intro hge
   have hge : L.length ≤ k := by simpa using hge
   rw [List.take_of_length_le hge] at hD
   have hl2 : (s ++ X5 (L.map Qsi)).size + (X5 ((Qat (Qid c.width (z.filter wpB)) (0 / Qq c.width) ((1099511627776 + c.width) / Qq c.width)).map (Qf0 z c))).size ≤ 140737488355328 := by rw [ByteArray.size_append]; omega
   generalize s ++ X5 (L.map Qsi) = s2 at hD hl2 ⊢
   have hwd : 1 ≤ Qq c.width ∧ Qq c.width ≤ 1099511627776 := by rw [Q8d hc2]; exact hc2
   have hkn : ∀ x ∈ Qat (Qid c.width (z.filter wpB)) (0 / Qq c.width) ((1099511627776 + c.width) / Qq c.width),Qi x = true := fun x hx => Qw5 hm hx
   have hkl := Qry z c.width (0 / Qq c.width) ((1099511627776 + c.width) / Qq c.width)
   obtain ⟨v2,T2,col2,q2,A2,n2,cap2,any2,last2,hL2,_,_⟩ := hD.wql
   have hp := hL2.cts.pane
   rw [hps] at hp
   (conv=>whnf);repeat(refine Sg ?_;(conv=>whnf))
   refine ⟨_,hL2.head.one rfl,?_⟩; (conv=>whnf);repeat(refine Sg ?_;(conv=>whnf))
   refine ⟨1099511627776 + c.width,wrap_eq rfl ⟨by omega,by omega⟩,?_⟩; (conv=>whnf);repeat(refine Sg ?_;(conv=>whnf))
   refine ⟨_,hL2.head.one rfl,?_⟩; (conv=>whnf);repeat(refine Sg ?_;(conv=>whnf))
   refine (Qj8 w2 _ q2.pp (Qq c.width) _ _ hp hwd _ (Xac c.width hm (by omega)) 0 (1099511627776 + c.width) ⟨by omega,by omega⟩ ⟨by omega,by omega⟩).mono ?_
   rintro _ w3 ⟨A3,c3,rfl,hs3,hA3,hx3⟩
   have hsl3 : SlS Qbr 1 w3 b g1 A3 (Qat (Qid c.width (z.filter wpB)) (0 / Qq c.width) ((1099511627776 + c.width) / Qq c.width)) := ⟨hs3,fun hne a ha => ⟨hD.bl.safe_new (hA3 a ha),Qso hs3 one_pos hne ha⟩⟩
   have hD3 := hD.ext hx3
   have hw3 := hw.trans (Wrt.ext hx3)
   clear hs3 hA3 hD hw hL2 hp hsl
   generalize Qat (Qid c.width (z.filter wpB)) (0 / Qq c.width) ((1099511627776 + c.width) / Qq c.width) = keys at hsl3 hkn hkl hl2 ⊢
   have h0 : Dg w3 B b g1 T p c z (s2 ++ X5 ((keys.take 0).map (Qf0 z c))) := by
    show Dg w3 B b g1 T p c z (s2 ++ X5 [])
    rw [Qbx,Qcm]
    exact hD3
   (conv=>whnf);repeat(refine Sg ?_;(conv=>whnf))
   refine Qg Qa (fun (x:Nat × Option Nat) w' => x.1 ≤ keys.length ∧ Dg w' B b x.2 T p c z (s2 ++ X5 ((keys.take x.1).map (Qf0 z c))) ∧ Wrt b g w x.2 w' ∧ SlS Qbr 1 w' b x.2 A3 keys)
    (fun | (k,_) => [(0,.pointer (some ⟨p,0,none⟩)),(2,.func (.func 36) #[] #[.pointer (some ⟨b,0,none⟩)]),(8,.int .i64 (1099511627776 + c.width)),(42,.slice A3 keys.length c3),(43,.int .i64 keys.length),(44,.int .i64 (k:Nat))]) (fun x => keys.length - x.1) (0,g1) ⟨Nat.zero_le _,h0,hw3,hsl3⟩ ⟨rfl,rfl,rfl,rfl,rfl,rfl,trivial⟩ ?_
   clear h0 hw3 hsl3 hD3 hx3
   rintro ⟨j,g3⟩ w4 ⟨hj,hD,hw,hsl⟩
   simp only at hj hD hw hsl
   conv=>whnf
   constructor
   · intro hlt
     have hlt : j < keys.length := by simpa using hlt
     obtain ⟨a,rfl,hca⟩ := hsl.sl.get hlt
     have htk := Xv (Qf0 z c) keys j hlt
     have hpk := Qbu (Qf0 z c) keys (j + 1)
     rw [htk,ByteArray.size_append] at hpk
     have hib := hkn keys[j] (List.getElem_mem hlt)
     generalize keys[j] = x at hca htk hpk hib
     have hpn := Qxn hm hz c.width x (0 / Qq c.width) ((1099511627776 + c.width) / Qq c.width)
     have hth : Qf0 z c x = Qdb [Qx8,x,nB (paS (Qid c.width (z.filter wpB)) x (0 / Qq c.width) ((1099511627776 + c.width) / Qq c.width))] := by unfold Qf0; rw [hps]
     rw [hth] at htk hpk
     generalize X5 ((keys.take j).map (Qf0 z c)) = u at htk hpk hD
     obtain ⟨v5,T5,Q68,q5,A5,n5,cap5,any5,last5,hL5,_,_⟩ := hD.wql
     have hp := hL5.cts.pane
     rw [hps] at hp
     (conv=>whnf);repeat(refine Sg ?_;(conv=>whnf))
     refine ⟨a,⟨rfl,by omega,by omega⟩,?_⟩; (conv=>whnf);repeat(refine Sg ?_;(conv=>whnf))
     refine ⟨.string x,Qv hca,?_⟩; (conv=>whnf);repeat(refine Sg ?_;(conv=>whnf))
     refine ⟨_,hL5.head.one rfl,?_⟩; (conv=>whnf);repeat(refine Sg ?_;(conv=>whnf))
     refine (Qji w4 _ q5.pp (Qq c.width) _ _ hp hwd _ (Xac c.width hm (by omega)) x 0 (1099511627776 + c.width) ⟨by omega,by omega⟩ ⟨by omega,by omega⟩).mono ?_
     rintro _ w5 ⟨rfl,hw5⟩
     subst hw5
     generalize paS (Qid c.width (z.filter wpB)) x (0 / Qq c.width) ((1099511627776 + c.width) / Qq c.width) = m at hpn htk hpk ⊢
     (conv=>whnf);repeat(refine Sg ?_;(conv=>whnf))
     refine (Qi7 m w5 hD.gl (by omega) (by omega)).mono ?_
     rintro _ w7 ⟨rfl,hx7⟩; (conv=>whnf);repeat(refine Sg ?_;(conv=>whnf))
     have hD7 := hD.ext hx7
     intro b10 w10 hn10; (conv=>whnf);repeat(refine Sg ?_;(conv=>whnf))
     refine (hD7.line [Qx8,x,nB m] rfl hn10 (by simp) (by rw [ByteArray.size_append,ByteArray.size_append]; omega) 3 rfl).mono ?_
     rintro _ w11 ⟨rfl,g11,hD11,hw11⟩
     rw [ByteArray.append_assoc,← htk] at hD11
     (conv=>whnf);repeat(refine Sg ?_;(conv=>whnf))
     refine ⟨_,wrap_succ (by omega),?_⟩; (conv=>whnf);repeat(refine Sg ?_;(conv=>whnf))
     have hw2 : Wrt b g3 w5 g11 w11 := (Wrt.ext hx7).trans hw11
     exact ⟨(j + 1,g11),by simp only; omega,⟨by simp only; omega,hD11,hw.trans hw2,hsl.wrt hw2⟩,⟨rfl,rfl,rfl,rfl,rfl,rfl,trivial⟩⟩
   · intro hge
     have hge : keys.length ≤ j := by simpa using hge
     rw [List.take_of_length_le hge] at hD
     (conv=>whnf);repeat(refine Sg ?_;(conv=>whnf))
     exact ⟨rfl,g3,hD,hw⟩
set_option maxHeartbeats 1000000 in
set_option maxRecDepth 100000 in
theorem Xa0 {P:Program} {ρ:Ren} (L:Lays.n169 P ρ) (X:Builder.Extra P ρ) (B b:Nat) (l:List UInt8) (w:World) (h:Lib.IsBuilder (ρ.t 72) (ρ.t 5) B b (Lib.byteCells l) w) (h0:l ≠ []) (g0:Option Nat) (hg0:RowOf w b g0) :
 Calls P (ρ.f 169) #[.pointer (some ⟨b,0,none⟩)] w fun e w' => e = .returned (.string ⟨l.toArray⟩) ∧ ∃ g,g0 = some g ∧ w' = w.drew.freeze ⟨g,0,none⟩ l.length := by
 obtain ⟨p,hB,v,hbk,hown,hne⟩ : ∃ p,Lib.BuilderAt (ρ.t 72) (ρ.t 5) B b p (Lib.byteCells l) w := by
  rcases h with h | h
  · exact ⟨_,h⟩
  · exact ⟨_,h⟩
 have hl0 : l.length ≠ 0 := by simpa using h0
 rw [Lib.byteCells_length] at hown
 obtain ⟨g,cap,cur,rfl,hbg,hg,hnc,hcm,hcs,htake⟩ : ∃ g cap cur,v = .slice (some ⟨g,0,none⟩) l.length cap ∧ B ≤ g ∧ w.heap[g]? = some (.cells cur (ρ.t 5) (0,0)) ∧ l.length ≤ cap ∧ cap ≤ maxLen ∧ cur.size = cap * 1 ∧ cur.toList.take (l.length * 1) = Lib.byteCells l := by
  rcases hown.2 with ⟨_,hz⟩ | ⟨g,cap,cur,hv,r⟩
  · exact absurd hz hl0
  · exact ⟨g,cap,cur,hv,r⟩
 have hgg : g0 = some g := (hg0 _ _ _ _ hbk).symm
 have c1 : w.drew.cell? ⟨b,1,none⟩ = some (.slice (some ⟨g,0,none⟩) l.length cap) := by
  have : w.drew.heap[b]? = some (.cells #[p,.slice (some ⟨g,0,none⟩) l.length cap] (ρ.t 72) (0,0)) := hbk
  rw [Lib.cell_of_heap this]; rfl
 have hSD : (Builtin.unsafeSliceData_ #[(ρ.t 37)] (ρ.t 127) #[.slice (some ⟨g,0,none⟩) l.length cap]).run P w.drew = .ok (.pointer (some ⟨g,0,none⟩)) w.drew :=
  Lib.run_unsafeSliceData_row _ _ _ _ _ _ (by omega)
 have hUS : (Builtin.unsafeString_ #[(ρ.t 127),(ρ.t 3)] (ρ.t 9) #[.pointer (some ⟨g,0,none⟩),.int .i64 l.length]).run P w.drew = .ok (.string ⟨l.toArray⟩) (w.drew.freeze ⟨g,0,none⟩ l.length) := by
  refine Lib.run_unsafeString_row w.drew (ρ.t 127) (ρ.t 3) (ρ.t 9) (ρ.t 5) L.t127 X.cellsByte g cur.size (by have hg':w.drew.heap[g]? = some (.cells cur (ρ.t 5) (0,0)) := hg; simp [World.shape?,hg']) l h0 (by omega) (by unfold maxLen at hcm; omega) ?_
  intro j x hx
  exact hown.cells (g := g) rfl j (.int .u8 x.toNat) (by simp [Lib.byteCells,hx])
 have mixed := L.mixed
 have t72 := L.t72; have a72 := L.a72; have z72 := L.z72; have v72 := L.v72; have u72 := run_underlying L.t72
 have t70 := L.t70; have a70 := L.a70; have z70 := L.z70; have v70 := L.v70; have u70 := run_underlying L.t70
 have t37 := L.t37; have a37 := L.a37; have z37 := L.z37; have v37 := L.v37; have u37 := run_underlying L.t37
 have t127 := L.t127; have a127 := L.a127; have z127 := L.z127; have v127 := L.v127; have u127 := run_underlying L.t127
 have t3 := L.t3; have a3 := L.a3; have z3 := L.z3; have v3 := L.v3; have u3 := run_underlying L.t3
 have t9 := L.t9; have a9 := L.a9; have z9 := L.z9; have v9 := L.v9; have u9 := run_underlying L.t9
 have t5 := X.t5; have a5 := X.a5; have z5 := X.z5; have v5 := X.v5; have u5 := run_underlying X.t5
 go_enter L.f169,Body.n169_ntmps ρ
 go_wp2
 go_region_o
 all_goals (go_wp2; go_ret; exact ⟨rfl,g,hgg,rfl⟩)
theorem Q0v {w:World} {b g n:Nat} {g0:Option Nat} (h:g0 = some g) : Wrt b g0 w g0 (w.drew.freeze ⟨g,0,none⟩ n) := by
 have hb := fun B (hB:B ≤ g) => Lib.below_freeze (Below.drew (Below.refl B w)) (p := ⟨g,0,none⟩) hB n
 have h0 := hb 0 (Nat.zero_le _)
 refine ⟨.inl rfl,h0.os,h0.tape,h0.output,h0.size,fun k _ hk => ?_⟩
 have hne : g ≠ k := fun e => hk (.inr (by rw [h,e]))
 unfold World.freeze
 split
 · rfl
 · simp only [Array.getElem?_modify]
   rw [if_neg hne]
   rfl
theorem Q48 {w:World} {B b:Nat} {s:ByteArray} {g:Option Nat} (h:BlG w B b s g) (hs:s.data.toList ≠ []) :
 Cal Tryz.prog 49 [.pointer (some ⟨b,0,none⟩)] w fun r w' => r = .string s ∧ Wrt b g w g w' := by
 refine Qbq Q5z (Xa0 Tryz.lays169 Tryz.Builder_Extra_169 B b s.data.toList w h.is hs g h.row) ?_
 rintro w' ⟨g1,hg,rfl⟩
 exact ⟨rfl,Q0v hg⟩
theorem Xai (c:Cfg) (z:List Ev) : ∀ q ∈ Qas c z,q.items ≠ [] := by
 intro q hq
 unfold Qas at hq
 rw [← Qqm _ (Qlq _).1] at hq
 revert q
 generalize Qd7 ahB ((z.filter wpB).map adE) = L
 revert L
 refine Qy (fun q hq => by simp [allL] at hq) fun L a ih q hq => ?_
 rw [Qfl] at hq
 have hone : ∀ x : ByteArray,[x] ≠ [] := fun x h => by cases h
 unfold Qaw at hq
 split at hq
 · next g hg =>
   split at hq
   · rcases List.mem_append.1 hq with hq | hq
     · exact ih q (List.dropLast_subset _ hq)
     · rw [List.mem_singleton] at hq
       subst hq
       intro h
       have : a.2.2 ∈ Qw3 bLt g.items a.2.2 := Qgg.2 (.inr rfl)
       simp only at h
       rw [h] at this
       cases this
   · rcases List.mem_append.1 hq with hq | hq
     · exact ih q hq
     · rw [List.mem_singleton] at hq
       subst hq
       exact hone _
 · rcases List.mem_append.1 hq with hq | hq
   · exact ih q hq
   · rw [List.mem_singleton] at hq
     subst hq
     exact hone _
theorem Qy3 (l:List ByteArray) (A:Option Addr) (c:Nat) (w:World) (hne:l ≠ []) (hs:SlT w A l) (hA:∀ a,A = some a → a.spot = none ∧ l.length ≤ c) (hn:∀ x ∈ l,Qi x = true) (hl:l.length < 1000000) :
 Cal Tryz.prog 44 [.slice A l.length c,.string ⟨#[44]⟩] w fun r w' => r = .string (jnB l) ∧ Ext w w' := by
 have hsz := Q2c l hn
 obtain ⟨⟨k,o,sp⟩,rfl,_⟩ := hs.get (k := 0) (List.length_pos_iff.2 hne)
 obtain ⟨rfl,hlc⟩ := hA _ rfl
 have hlt := Qso hs one_pos hne rfl
 have hcells : ∀ (j:Nat) x,l[j]? = some x → w.cell? ⟨k,o + j,none⟩ = some (.string x) := fun j x hj => by
  obtain ⟨a,ha,hc⟩ := hs j x hj
  have ha : (⟨k,o,none⟩ : Addr) = a := by simpa using ha
  subst ha
  have h1 := hc 0 (.string x) rfl
  have h2 : ((⟨k,o,none⟩ : Addr).add (j * 1)).add 0 = ⟨k,o + j,none⟩ := by
   rw [Xf]
   simp only [Addr.add]
   split
   · next hz => simp at hz; rw [hz]; rfl
   · simp
  rw [h2] at h1
  exact h1
 refine Qbq Q2w (Tryz.strings_Join k o c l ⟨#[44]⟩ w hcells hlt (by omega) hlc ?_) ?_
 · have h2 : ∀ L : List UInt8,(⟨L.toArray⟩ : ByteArray).size = L.length := fun L => by simp [ByteArray.size]
   unfold jnB at hsz
   rw [h2] at hsz
   show (Lib.join (l.map (·.data.toList)) [44]).length ≤ _
   omega
 · intro w' hw'
   exact ⟨rfl,hw'⟩
structure SnS (w:World) (b:Nat) (g:Option Nat) (T:List SnH) (Q:List Sn) : Prop where
 len : T.length = Q.length
 at_ : ∀ (i:Nat) (d:SnH) (q:Sn),T[i]? = some d → Q[i]? = some q → d.1 = q.person ∧ d.2.1 = q.from_ ∧ d.2.2.1 = q.to_ ∧ d.2.2.2.2.1 = q.items.length ∧ SlS Qbr 1 w b g d.2.2.2.1 q.items ∧ ∀ a,d.2.2.2.1 = some a → a.spot = none ∧ q.items.length ≤ d.2.2.2.2.2
theorem SnS.wrt {w w':World} {b:Nat} {g g':Option Nat} {T:List SnH} {Q:List Sn} (h:SnS w b g T Q) (hw:Wrt b g w g' w') : SnS w' b g' T Q :=
 ⟨h.len,fun i d q hd hq => by
  obtain ⟨h1,h2,h3,h4,h5,h6⟩ := h.at_ i d q hd hq
  exact ⟨h1,h2,h3,h4,h5.wrt hw,h6⟩⟩
theorem Qa6.safe {w w':World} {B b:Nat} {g:Option Nat} {s:ByteArray} {R:Nat → Prop} {T:List SnH} {Q:List Sn} (h:Qa6 w' w.heap.size R T Q) (hb:BlG w B b s g) : SnS w' b g T Q :=
 ⟨h.len,fun i d q hd hq => by
  obtain ⟨h1,h2,h3,h4,h5,h6,h7⟩ := h.at_ i d q hd hq
  exact ⟨h1,h2,h3,h4,⟨h5,fun _ a ha => ⟨hb.safe_new (h6 a ha).1,(h6 a ha).2.1⟩⟩,h7⟩⟩
theorem Dg.events {w:World} {B b:Nat} {g:Option Nat} {T:Nat → Prop} {p:Nat} {c:Cfg} {z:List Ev} {s:ByteArray} (h:Dg w B b g T p c z s) : ∃ v T0 col q A cap any last,WQL w T0 p c z v col q A z.length cap any last ∧ SlS evC 8 w b g A z := by
 obtain ⟨v,T0,hQ,hT0,_,_⟩ := h.wt
 obtain ⟨col,q,A,n,cap,any,last,hL⟩ := hQ.at_
 obtain ⟨rfl,hs,hA⟩ := hL.evs
 refine ⟨v,T0,col,q,A,cap,any,last,hL,hs,fun _ a ha => ?_⟩
 have h1 := hL.tset a.block (by rw [hA a ha]; decide)
 exact ⟨h.safe _ (hT0 _ h1),hL.tlt _ h1⟩
def Qgt (now:Int) : Int := min (max now 0) 1099511627776
theorem Q8m (now:Int) : 0 ≤ Qgt now ∧ Qgt now ≤ 1099511627776 := by unfold Qgt; omega
theorem Q9x (c:Cfg) (z:List Ev) (now:Int) : (Q5d c z now).data.toList ≠ [] := by
 intro h
 have h1 : (Q5d c z now).size = 0 := by
  have h2 : ∀ x : ByteArray,x.data.toList.length = x.size := fun x => Array.length_toList
  rw [← h2,h]; rfl
 unfold Q5d Q9j Qdb at h1
 simp only [ByteArray.size_append,Qu2] at h1
 omega
set_option maxHeartbeats 16000000 in
theorem Quh {w:World} {T:Nat → Prop} {p:Nat} {c:Cfg} {z:List Ev} (h:WT w T p c z) (hg:Gl w) (hcf:Qjv c = true) (hz:z.length < 1000) (hT10:∀ k,T k → 10 ≤ k) (now:Int) :
 Cal Tryz.prog 10 [.pointer (some ⟨p,0,none⟩),.int .i64 now] w fun r w' => r = .string (Q5d c z (Qgt now)) ∧ ∃ T',WT w' T' p c z ∧ (∀ k,T' k → T k ∨ w.heap.size ≤ k) ∧ Mod T w w' := by
 have hm : ∀ x ∈ z,Xj x = true := by obtain ⟨v,T0,hQ,_⟩ := h; exact hQ.may
 have hr : Rise z := by obtain ⟨v,T0,hQ,_⟩ := h; exact hQ.rise
 obtain ⟨hc1,hc2,hc3,_,hc5,hc6,hc7⟩ := Q1r hcf
 have hnow := Q8m now
 have htot := Q1x hcf hr hm hz (Qgt now)
 have hdne := Q9x c z (Qgt now)
 unfold Q5d at htot hdne ⊢
 simp only [ByteArray.size_append] at htot
 refine Fi Tryz.func10 rfl _ rfl rfl ?_;conv=>whnf
 intro b w1 hn1; (conv=>whnf);repeat(refine Sg ?_;(conv=>whnf))
 have hB0 := BlG.new hn1
 have hD : Dg w1 w.heap.size b none T p c z ⟨#[]⟩ := ⟨hB0,h.ext hn1.ext,fun k hk => hB0.safe_old (h.lt k hk),hg.ext hn1.ext,hg.size⟩
 have hx01 := hn1.ext
 have hbe := hn1.block
 clear hn1 hB0
 obtain ⟨v,T0,col,q,A,cap,any,last,hL,_⟩ := hD.events
 have hh : At w1 p 87 ([] ++ (Qni c ++ (wCv c A z.length cap any last q v).drop 6)) := hL.head
 refine ⟨Qni c,⟨rfl,At.sub hh⟩,?_⟩; (conv=>whnf);repeat(refine Sg ?_;(conv=>whnf))
 clear hh hL
 intro b7 w2 hn2; (conv=>whnf);repeat(refine Sg ?_;(conv=>whnf))
 refine Qj Qa (e := ty23) rfl hn2.At rfl rfl rfl (by simp [Qm,Qni,Value.oneCell']) fun w3 h3 ho3 => ?_
 have h3 : At w3 b7 23 (Qni c) := h3
 have hx13 : Ext w1 w3 := ho3.ext hn2.ext (by rw [hn2.block]; exact Nat.le_refl _)
 clear ho3 hn2
 (conv=>whnf);repeat(refine Sg ?_;(conv=>whnf))
 refine Dr .ext [0,1,2,4,5,7,8,10,11,13,14,16,17,3,6,9,12,15,18,19] [20] ?_;conv=>whnf
 have hxd : Ext w3 w3.drew := (Ext.refl w3).drew
 replace hx13 := hx13.trans hxd
 replace h3 := h3.ext hxd
 clear hxd
 generalize w3.drew = w4 at hx13 h3 ⊢
 refine ⟨.int .i64 c.half,h3.one rfl,?_⟩;conv=>whnf
 refine ⟨.int .i64 c.width,h3.one rfl,?_⟩;conv=>whnf
 refine ⟨.int .i64 c.gap,h3.one rfl,?_⟩;conv=>whnf
 refine ⟨.int .i64 c.span,h3.one rfl,?_⟩;conv=>whnf
 refine ⟨.int .i64 c.floor,h3.one rfl,?_⟩;conv=>whnf
 refine ⟨.int .i64 c.crowd,h3.one rfl,?_⟩;conv=>whnf
 have hg4 := hD.gl.ext hx13
 refine (Qah c.half w4 hg4 (by omega) (by omega)).mono ?_
 rintro _ w5 ⟨rfl,hx5⟩
 refine ⟨hx5,?_⟩;conv=>whnf
 replace hg4 := hg4.ext hx5
 replace hx13 := hx13.trans hx5
 clear hx5
 refine (Qah c.width w5 hg4 (by omega) (by omega)).mono ?_
 rintro _ w6 ⟨rfl,hx6⟩
 refine ⟨hx6,?_⟩;conv=>whnf
 replace hg4 := hg4.ext hx6
 replace hx13 := hx13.trans hx6
 clear hx6
 refine (Qah c.gap w6 hg4 (by omega) (by omega)).mono ?_
 rintro _ w7 ⟨rfl,hx7⟩
 refine ⟨hx7,?_⟩;conv=>whnf
 replace hg4 := hg4.ext hx7
 replace hx13 := hx13.trans hx7
 clear hx7
 refine (Qah c.span w7 hg4 (by omega) (by omega)).mono ?_
 rintro _ w8 ⟨rfl,hx8⟩
 refine ⟨hx8,?_⟩;conv=>whnf
 replace hg4 := hg4.ext hx8
 replace hx13 := hx13.trans hx8
 clear hx8
 refine (Qah c.floor w8 hg4 (by omega) (by omega)).mono ?_
 rintro _ w9 ⟨rfl,hx9⟩
 refine ⟨hx9,?_⟩;conv=>whnf
 replace hg4 := hg4.ext hx9
 replace hx13 := hx13.trans hx9
 clear hx9
 refine (Qah c.crowd w9 hg4 (by omega) (by omega)).mono ?_
 rintro _ w10 ⟨rfl,hx10⟩
 refine ⟨hx10,?_⟩;conv=>whnf
 replace hg4 := hg4.ext hx10
 replace hx13 := hx13.trans hx10
 clear hx10
 have hD10 := hD.ext hx13
 intro b10 w11 hn10
 refine ⟨hn10.ext,?_⟩;conv=>whnf
 have hcd : (⟨#[]⟩ : ByteArray) ++ Qdb [Qk4,nB c.half,nB c.width,nB c.gap,nB c.span,nB c.floor,nB c.crowd] = Q9j c := Q1h _
 refine (hD10.line [Qk4,nB c.half,nB c.width,nB c.gap,nB c.span,nB c.floor,nB c.crowd] rfl hn10 (by simp) (by rw [hcd]; omega) 7 rfl).mono ?_
 rintro _ w12 ⟨rfl,g1,hD1,hw1⟩
 rw [hcd] at hD1
 replace hw1 : Wrt b none w1 g1 w12 := (Wrt.ext hx13).trans hw1
 clear hcd hD10 hn10 hx13 h3 hg4 hD
 generalize Q9j c = s1 at hD1 htot hdne ⊢
 obtain ⟨v,T0,col,q,A,cap,any,last,hL,hsE⟩ := hD1.events
 have h0 : Dg w12 w.heap.size b g1 T p c z (s1 ++ X5 ((z.take 0).map evD)) := by
  show Dg w12 w.heap.size b g1 T p c z (s1 ++ X5 [])
  rw [Qbx,Qcm]
  exact hD1
 (conv=>whnf);repeat(refine Sg ?_;(conv=>whnf))
 refine ⟨_,hL.head.one rfl,?_⟩; (conv=>whnf);repeat(refine Sg ?_;(conv=>whnf))
 refine Qg Qa (fun (x:Nat × Option Nat) w' => x.1 ≤ z.length ∧ Dg w' w.heap.size b x.2 T p c z (s1 ++ X5 ((z.take x.1).map evD)) ∧ Wrt b none w1 x.2 w' ∧ SlS evC 8 w' b x.2 A z)
  (fun | (k,_) => [(0,.pointer (some ⟨p,0,none⟩)),(1,.int .i64 (Qgt now)),(5,.pointer (some ⟨b,0,none⟩)),(6,.func (.func 36) #[] #[.pointer (some ⟨b,0,none⟩)]),(48,.slice A z.length cap),(49,.int .i64 z.length),(50,.int .i64 (k:Nat))]) (fun x => z.length - x.1) (0,g1) ⟨Nat.zero_le _,h0,hw1,hsE⟩ ⟨rfl,rfl,rfl,rfl,rfl,rfl,rfl,trivial⟩ ?_
 clear h0 hw1 hsE hD1 hL
 rintro ⟨k,g2⟩ w13 ⟨hk,hD,hw,hsl⟩
 simp only at hk hD hw hsl
 conv=>whnf
 constructor
 · intro hlt
   have hlt : k < z.length := by simpa using hlt
   obtain ⟨a,rfl,hca⟩ := hsl.sl.get hlt
   have htk := Xv evD z k hlt
   have hpk := Qbu evD z (k + 1)
   rw [htk,ByteArray.size_append] at hpk
   have hme := hm z[k] (List.getElem_mem hlt)
   generalize z[k] = e at hca htk hpk hme
   have hth : evD e = Qdb [Qq2,Qgx e] := rfl
   rw [hth] at htk hpk
   generalize X5 ((z.take k).map evD) = u at htk hpk hD
   (conv=>whnf);repeat(refine Sg ?_;(conv=>whnf))
   refine ⟨a,⟨rfl,by omega,by omega⟩,?_⟩; (conv=>whnf);repeat(refine Sg ?_;(conv=>whnf))
   refine ⟨evC e,⟨rfl,hca⟩,?_⟩; (conv=>whnf);repeat(refine Sg ?_;(conv=>whnf))
   intro b8 w14 hn4; (conv=>whnf);repeat(refine Sg ?_;(conv=>whnf))
   refine Qj Qa (e := ty66) rfl hn4.At rfl rfl rfl (Qe1 e) fun w15 h5 ho5 => ?_
   have h5 : At w15 b8 66 (evC e) := h5
   have hx25 : Ext w13 w15 := ho5.ext hn4.ext (by rw [hn4.block]; exact Nat.le_refl _)
   clear ho5 hn4
   (conv=>whnf);repeat(refine Sg ?_;(conv=>whnf))
   refine ⟨evC e,⟨rfl,h5.all⟩,?_⟩; (conv=>whnf);repeat(refine Sg ?_;(conv=>whnf))
   refine (Qhb e w15 (hD.gl.ext hx25) hme (Qpw hme (by have := Qd8 hme; omega))).mono ?_
   rintro _ w16 ⟨rfl,hx6⟩; (conv=>whnf);repeat(refine Sg ?_;(conv=>whnf))
   replace hx25 := hx25.trans hx6
   have hD6 := hD.ext hx25
   intro b9 w17 hn7; (conv=>whnf);repeat(refine Sg ?_;(conv=>whnf))
   refine (hD6.line [Qq2,Qgx e] rfl hn7 (by simp) (by rw [ByteArray.size_append,ByteArray.size_append]; omega) 2 rfl).mono ?_
   rintro _ w18 ⟨rfl,g8,hD8,hw8⟩
   rw [ByteArray.append_assoc,← htk] at hD8
   (conv=>whnf);repeat(refine Sg ?_;(conv=>whnf))
   refine ⟨_,wrap_succ (by omega),?_⟩; (conv=>whnf);repeat(refine Sg ?_;(conv=>whnf))
   have hw2 : Wrt b g2 w13 g8 w18 := (Wrt.ext hx25).trans hw8
   exact ⟨(k + 1,g8),by simp only; omega,⟨by simp only; omega,hD8,hw.trans hw2,hsl.wrt hw2⟩,⟨rfl,rfl,rfl,rfl,rfl,rfl,rfl,trivial⟩⟩
 intro hge
 have hge : z.length ≤ k := by simpa using hge
 rw [List.take_of_length_le hge] at hD
 clear hsl hge hk
 have hs2 : (s1 ++ X5 (z.map evD)).size = s1.size + (X5 (z.map evD)).size := ByteArray.size_append
 generalize s1 ++ X5 (z.map evD) = s2 at hD hs2 hdne ⊢
 (conv=>whnf);repeat(refine Sg ?_;(conv=>whnf))
 refine (Qtn hD hz (Qgt now) (by omega)).mono ?_
 rintro _ w14 ⟨rfl,g3,hD3,hw3⟩
 replace hw := hw.trans hw3
 clear hw3 hD
 have hs3 : (s2 ++ X5 ((Qc7 z (Qgt now)).map (thD z (Qgt now)))).size = s2.size + (X5 ((Qc7 z (Qgt now)).map (thD z (Qgt now)))).size := ByteArray.size_append
 generalize s2 ++ X5 ((Qc7 z (Qgt now)).map (thD z (Qgt now))) = s3 at hD3 hs3 hdne ⊢
 (conv=>whnf);repeat(refine Sg ?_;(conv=>whnf))
 refine (Q4e hD3 hcf hz (Qgt now) hnow (by omega)).mono ?_
 rintro _ w15 ⟨rfl,g4,hD4,hw4⟩
 replace hw := hw.trans hw4
 clear hw4 hD3
 have hs4 : (s3 ++ X5 ((Qb9 (Qbj (Qe c.width z).ds (Qq c.half) (Qgt now))).map Qsi) ++ X5 ((Qat (Qe c.width z).ps (0 / Qq c.width) ((1099511627776 + c.width) / Qq c.width)).map (Qf0 z c))).size = s3.size + (X5 ((Qb9 (Qbj (Qe c.width z).ds (Qq c.half) (Qgt now))).map Qsi)).size + (X5 ((Qat (Qe c.width z).ps (0 / Qq c.width) ((1099511627776 + c.width) / Qq c.width)).map (Qf0 z c))).size := by rw [ByteArray.size_append,ByteArray.size_append]
 generalize s3 ++ X5 ((Qb9 (Qbj (Qe c.width z).ds (Qq c.half) (Qgt now))).map Qsi) ++ X5 ((Qat (Qe c.width z).ps (0 / Qq c.width) ((1099511627776 + c.width) / Qq c.width)).map (Qf0 z c)) = s4 at hD4 hs4 hdne ⊢
 have hok := Q0w c z hm hz
 have hsn := fun q hq => Q30 (c := c) hm (q := q) hq
 have hil := Q32 c hz
 have hne := Xai c z
 have hql := hok.len
 obtain ⟨v,T0,col,q,A1,n1,cap1,any,last,hL,_,_⟩ := hD4.wql
 have hse := hL.cts.ses
 rw [(Qcs c.width z).2.2] at hse
 (conv=>whnf);repeat(refine Sg ?_;(conv=>whnf))
 refine ⟨_,hL.head.one rfl,?_⟩; (conv=>whnf);repeat(refine Sg ?_;(conv=>whnf))
 refine (Qog w15 _ q.ps _ _ hse (Qlq _) hok.ses).mono ?_
 rintro _ w16 ⟨A6,c6,U,rfl,hown6,hS6,hx6⟩
 have hS6 : Qa6 w16 w15.heap.size (rowB A6) U (Qas c z) := hS6
 have hsn6 := hS6.safe hD4.bl
 have hsu6 : SlS seC 4 w16 b g4 A6 U := ⟨hown6.sl Qfa,fun _ a ha => ⟨hD4.bl.safe_new (hown6.block ha).1,(hown6.block ha).2⟩⟩
 have hD6 := hD4.ext hx6
 have hw6 := hw.trans (Wrt.ext hx6)
 clear hown6 hS6 hx6 hD4 hw hL hse
 generalize hQs : Qas c z = Q at hsn6 hsn hil hne hql htot hdne ⊢
 have hUl := hsn6.len
 have h0 : Dg w16 w.heap.size b g4 T p c z (s4 ++ X5 ((Q.take 0).map snD)) := by
  show Dg w16 w.heap.size b g4 T p c z (s4 ++ X5 [])
  rw [Qbx,Qcm]
  exact hD6
 (conv=>whnf);repeat(refine Sg ?_;(conv=>whnf))
 refine Qg Qa (fun (x:Nat × Option Nat) w' => x.1 ≤ U.length ∧ Dg w' w.heap.size b x.2 T p c z (s4 ++ X5 ((Q.take x.1).map snD)) ∧ Wrt b none w1 x.2 w' ∧ SlS seC 4 w' b x.2 A6 U ∧ SnS w' b x.2 U Q)
  (fun | (k,_) => [(0,.pointer (some ⟨p,0,none⟩)),(1,.int .i64 (Qgt now)),(5,.pointer (some ⟨b,0,none⟩)),(6,.func (.func 36) #[] #[.pointer (some ⟨b,0,none⟩)]),(72,.slice A6 U.length c6),(73,.int .i64 U.length),(74,.int .i64 (k:Nat))]) (fun x => U.length - x.1) (0,g4) ⟨Nat.zero_le _,h0,hw6,hsu6,hsn6⟩ ⟨rfl,rfl,rfl,rfl,rfl,rfl,rfl,trivial⟩ ?_
 clear h0 hw6 hsu6 hsn6 hD6
 rintro ⟨k,g5⟩ w17 ⟨hk,hD,hw,hsl,hSn⟩
 simp only at hk hD hw hsl hSn
 conv=>whnf
 constructor
 · intro hlt
   have hlt : k < U.length := by simpa using hlt
   have hlq : k < Q.length := by omega
   obtain ⟨a,rfl,hca⟩ := hsl.sl.get hlt
   have htk := Xv snD Q k hlq
   have hpk := Qbu snD Q (k + 1)
   rw [htk,ByteArray.size_append] at hpk
   have hqin := List.getElem_mem hlq
   have hnum := hsn Q[k] hqin
   have hitl := hil Q[k] hqin
   have hitn := hne Q[k] hqin
   obtain ⟨e1,e2,e3,e4,e5,e6⟩ := hSn.at_ k U[k] Q[k] (List.getElem?_eq_getElem _) (List.getElem?_eq_getElem _)
   generalize Q[k] = qn at htk hpk hnum hitl hitn e1 e2 e3 e4 e5 e6
   generalize U[k] = d at hca e1 e2 e3 e4 e5 e6
   obtain ⟨d1,d2,d3,dA,dn,dc⟩ := d
   simp only at e1 e2 e3 e4 e5 e6
   subst e1 e2 e3 e4
   have hth : snD qn = Qdb [Qis,qn.person,nB qn.from_,nB qn.to_,jnB qn.items] := rfl
   rw [hth] at htk hpk
   generalize X5 ((Q.take k).map snD) = u at htk hpk hD
   clear hqin
   (conv=>whnf);repeat(refine Sg ?_;(conv=>whnf))
   refine ⟨a,⟨rfl,by omega,by omega⟩,?_⟩; (conv=>whnf);repeat(refine Sg ?_;(conv=>whnf))
   refine ⟨seC (qn.person,qn.from_,qn.to_,dA,qn.items.length,dc),⟨rfl,hca⟩,?_⟩; (conv=>whnf);repeat(refine Sg ?_;(conv=>whnf))
   intro b8 w18 hn4; (conv=>whnf);repeat(refine Sg ?_;(conv=>whnf))
   refine Qj Qa (e := ty93) rfl hn4.At rfl rfl rfl (Qvd _) fun w19 h5 ho5 => ?_
   have h5 : At w19 b8 93 (seC (qn.person,qn.from_,qn.to_,dA,qn.items.length,dc)) := h5
   have hx25 : Ext w17 w19 := ho5.ext hn4.ext (by rw [hn4.block]; exact Nat.le_refl _)
   clear ho5 hn4 hca
   (conv=>whnf);repeat(refine Sg ?_;(conv=>whnf))
   refine Dr .ext [0,1,2,3,4,6,7,9,10,5,8,11,12] [13] ?_;conv=>whnf
   have hxd : Ext w19 w19.drew := (Ext.refl w19).drew
   replace hx25 := hx25.trans hxd
   replace h5 := h5.ext hxd
   clear hxd
   generalize w19.drew = w20 at hx25 h5 ⊢
   refine ⟨.string qn.person,h5.one rfl,?_⟩;conv=>whnf
   refine ⟨.int .i64 qn.from_,h5.one rfl,?_⟩;conv=>whnf
   refine ⟨.int .i64 qn.to_,h5.one rfl,?_⟩;conv=>whnf
   refine ⟨.slice dA qn.items.length dc,h5.one rfl,?_⟩;conv=>whnf
   have hg5 := hD.gl.ext hx25
   refine (Qah qn.from_ w20 hg5 hnum.2.1.1 (by omega)).mono ?_
   rintro _ w21 ⟨rfl,hx7⟩
   refine ⟨hx7,?_⟩;conv=>whnf
   replace hx25 := hx25.trans hx7
   refine (Qah qn.to_ w21 (hg5.ext hx7) hnum.2.2.1.1 (by omega)).mono ?_
   rintro _ w22 ⟨rfl,hx8⟩
   refine ⟨hx8,?_⟩;conv=>whnf
   replace hx25 := hx25.trans hx8
   refine (Qy3 qn.items dA dc w22 hitn (e5.sl.ext hx25) e6 hnum.2.2.2 (by omega)).mono ?_
   rintro _ w23 ⟨rfl,hx9⟩
   refine ⟨hx9,?_⟩;conv=>whnf
   replace hx25 := hx25.trans hx9
   have hD9 := hD.ext hx25
   intro b10 w24 hn10
   refine ⟨hn10.ext,?_⟩;conv=>whnf
   refine (hD9.line [Qis,qn.person,nB qn.from_,nB qn.to_,jnB qn.items] rfl hn10 (by simp) (by rw [ByteArray.size_append,ByteArray.size_append]; omega) 5 rfl).mono ?_
   rintro _ w25 ⟨rfl,g11,hD11,hw11⟩
   rw [ByteArray.append_assoc,← htk] at hD11
   (conv=>whnf);repeat(refine Sg ?_;(conv=>whnf))
   refine ⟨_,wrap_succ (by omega),?_⟩; (conv=>whnf);repeat(refine Sg ?_;(conv=>whnf))
   have hw2 : Wrt b g5 w17 g11 w25 := (Wrt.ext hx25).trans hw11
   exact ⟨(k + 1,g11),by simp only; omega,⟨by simp only; omega,hD11,hw.trans hw2,hsl.wrt hw2,hSn.wrt hw2⟩,⟨rfl,rfl,rfl,rfl,rfl,rfl,rfl,trivial⟩⟩
 intro hge
 have hge : U.length ≤ k := by simpa using hge
 rw [List.take_of_length_le (by omega)] at hD
 have hs5 : (s4 ++ X5 (Q.map snD)).size = s4.size + (X5 (Q.map snD)).size := ByteArray.size_append
 generalize s4 ++ X5 (Q.map snD) = s5 at hD hs5 hdne ⊢
 rw [← hQs] at htot hdne hs5 ⊢
 clear hsl hSn hge hk hUl hsn hil hne hql
 (conv=>whnf);repeat(refine Sg ?_;(conv=>whnf))
 refine (Qrn hD hz hT10 (by omega)).mono ?_
 rintro _ w18 ⟨rfl,g6,T6,hD6,hT6,hM6⟩
 have hlt5 := hD.bl.lt
 have hg6 : ∀ k,g6 = some k → w.heap.size ≤ k := fun k hk => (hD6.bl.lt.2.2 k hk).1
 have hs6 : (s5 ++ X5 ((Qar (Qas c z)).map (Qd9 (Qas c z)))).size = s5.size + (X5 ((Qar (Qas c z)).map (Qd9 (Qas c z)))).size := ByteArray.size_append
 generalize s5 ++ X5 ((Qar (Qas c z)).map (Qd9 (Qas c z))) = s6 at hD6 hs6 hdne ⊢
 have hMw : Mod T w w18 := by
  have hM1 : Mod (fun k => k = b ∨ none = some k) w1 w17 := hw.mod
  refine ⟨hM6.os.trans (hM1.os.trans hx01.os),hM6.tape.trans (hM1.tape.trans hx01.tape),hM6.output.trans (hM1.output.trans hx01.output),Nat.le_trans hx01.size (Nat.le_trans hM1.size hM6.size),fun i hi hn => ?_⟩
  have s1 := hx01.size
  have s2 := hM1.size
  refine (hM6.block i (by omega) ?_).trans ((hM1.block i (by omega) ?_).trans (hx01.block i hi))
  · rintro (e | e | e)
    · exact hn e
    · omega
    · have := (hlt5.2.2 i e).1
      omega
  · rintro (e | e)
    · omega
    · cases e
 have hszw : w.heap.size ≤ w17.heap.size := Nat.le_trans hx01.size hw.size
 have hTf : ∀ k,T6 k → T k ∨ w.heap.size ≤ k := fun k hk => (hT6 k hk).imp id fun h => by omega
 clear hD hw hM6 hT6 hlt5
 obtain ⟨v,T0,col,q,A1,n1,cap1,any,last,hL,_,_⟩ := hD6.wql
 have hcr := hL.cts.crowd
 have hE := (Qdr c.width z).2
 have hpn : ∀ x ∈ Qzv z,Qi x = true := fun x hx => Qxp hm hx
 have hpl := Q3a z
 (conv=>whnf);repeat(refine Sg ?_;(conv=>whnf))
 refine ⟨_,hL.head.one rfl,?_⟩; (conv=>whnf);repeat(refine Sg ?_;(conv=>whnf))
 refine (Qtk w18 _ q.pw _ _ hcr (by rw [hE]; exact fun x hx => by have := Qab (hpn x hx); omega) (by rw [hE]; show (Qzv z).length ≤ _; omega)).mono ?_
 rintro _ w19 ⟨A7,c7,rfl,hs7,hA7,hx7⟩
 rw [hE,show Qc8 ((Qf1 z).map (·.person)) = Qzv z from rfl] at hs7
 rw [hE,show Qc8 ((Qf1 z).map (·.person)) = Qzv z from rfl]
 have hsl7 : SlS Qbr 1 w19 b g6 A7 (Qzv z) := ⟨hs7,fun hne a ha => ⟨hD6.bl.safe_new (hA7 a ha),Qso hs7 one_pos hne ha⟩⟩
 have hD7 := hD6.ext hx7
 have hw7 : Wrt b g6 w18 g6 w19 := Wrt.ext hx7
 have hrs := Qg8 c.width z hr hm
 have hrl := Q3q c.width z
 have htin := fun person x hx => Qxy hr hm hz (width := c.width) (half := Qq c.half) (now := Qgt now) (person := person) (x := x) hx
 have htln := fun person => Qtc hr hm hz c.width (Qq c.half) (Qgt now) person
 clear hs7 hA7 hx7 hD6 hL hcr
 generalize Qzv z = ppl at hsl7 hpn hpl htot hdne ⊢
 have h0 : Dg w19 w.heap.size b g6 T6 p c z (s6 ++ X5 ((ppl.take 0).map (Qio z c (Qgt now)))) := by
  show Dg w19 w.heap.size b g6 T6 p c z (s6 ++ X5 [])
  rw [Qbx,Qcm]
  exact hD7
 (conv=>whnf);repeat(refine Sg ?_;(conv=>whnf))
 refine Qg Qa (fun (x:Nat × Option Nat) w' => x.1 ≤ ppl.length ∧ Dg w' w.heap.size b x.2 T6 p c z (s6 ++ X5 ((ppl.take x.1).map (Qio z c (Qgt now)))) ∧ Wrt b g6 w18 x.2 w' ∧ SlS Qbr 1 w' b x.2 A7 ppl)
  (fun | (k,_) => [(0,.pointer (some ⟨p,0,none⟩)),(1,.int .i64 (Qgt now)),(5,.pointer (some ⟨b,0,none⟩)),(6,.func (.func 36) #[] #[.pointer (some ⟨b,0,none⟩)]),(100,.slice A7 ppl.length c7),(101,.int .i64 ppl.length),(102,.int .i64 (k:Nat))]) (fun x => ppl.length - x.1) (0,g6) ⟨Nat.zero_le _,h0,hw7,hsl7⟩ ⟨rfl,rfl,rfl,rfl,rfl,rfl,rfl,trivial⟩ ?_
 clear h0 hw7 hsl7 hD7
 rintro ⟨k,g8⟩ w20 ⟨hk,hD,hw,hsl⟩
 simp only at hk hD hw hsl
 conv=>whnf
 constructor
 · intro hlt
   have hlt : k < ppl.length := by simpa using hlt
   obtain ⟨a,rfl,hca⟩ := hsl.sl.get hlt
   have htk := Xv (Qio z c (Qgt now)) ppl k hlt
   have hpk := Qbu (Qio z c (Qgt now)) ppl (k + 1)
   rw [htk,ByteArray.size_append] at hpk
   have hxn := hpn ppl[k] (List.getElem_mem hlt)
   generalize ppl[k] = x at hca htk hpk hxn
   have hth : Qio z c (Qgt now) x = X5 ((Qb9 (Q6q (Qq c.half) (Qgt now) (rowsOf (Qe c.width z).rs x))).map (Qf6 x)) := rfl
   rw [hth] at htk hpk
   generalize X5 ((ppl.take k).map (Qio z c (Qgt now))) = u at htk hpk hD
   obtain ⟨v,T0,col,q,A1,n1,cap1,any,last,hL,_,_⟩ := hD.wql
   have hcr := hL.cts.crowd
   (conv=>whnf);repeat(refine Sg ?_;(conv=>whnf))
   refine ⟨a,⟨rfl,by omega,by omega⟩,?_⟩; (conv=>whnf);repeat(refine Sg ?_;(conv=>whnf))
   refine ⟨.string x,Qv hca,?_⟩; (conv=>whnf);repeat(refine Sg ?_;(conv=>whnf))
   refine ⟨_,hL.head.one rfl,?_⟩; (conv=>whnf);repeat(refine Sg ?_;(conv=>whnf))
   refine (Qv0 w20 _ q.pw _ _ hcr x (Qgt now) (by omega) (fun r hr => ⟨(hrs r hr).1,(Qr7 (hrs r hr).1).1⟩) (by
    have := Qvt (fun r:Row => r.2.length) 8 (Qe c.width z).rs fun r hr => (hrs r hr).2.2
    omega) (by omega)).mono ?_
   rintro _ w21 ⟨A8,c8,F,rfl,hF1,hF2,hF3,hA8,hx8⟩
   have hFe := Qqp hF1 hF2
   rw [← hFe] at htk hpk
   have hFin : ∀ y ∈ F,Qi y.1 = true ∧ 0 < y.2 ∧ y.2 ≤ 1099511627776 := fun y hy => htin x y (hF1.mem_iff.1 hy)
   have hFl : F.length ≤ 8000 := by rw [hF1.length_eq]; exact htln x
   have hsf8 : SlS Qd4 2 w21 b g8 A8 F := ⟨hF3,fun hne a ha => ⟨hD.bl.safe_new (hA8 a ha),Qso hF3 Q4l hne ha⟩⟩
   have hsl8 := hsl.ext hx8
   have hD8 := hD.ext hx8
   have hw8 := hw.trans (Wrt.ext hx8)
   clear hF1 hF2 hF3 hA8 hx8 hFe hL hcr hca hsl hD hw hth
   have h0 : Dg w21 w.heap.size b g8 T6 p c z (s6 ++ u ++ X5 ((F.take 0).map (Qf6 x))) := by
    show Dg w21 w.heap.size b g8 T6 p c z (s6 ++ u ++ X5 [])
    rw [Qbx,Qcm]
    exact hD8
   (conv=>whnf);repeat(refine Sg ?_;(conv=>whnf))
   refine Qg Qa (fun (y:Nat × Option Nat) w' => y.1 ≤ F.length ∧ Dg w' w.heap.size b y.2 T6 p c z (s6 ++ u ++ X5 ((F.take y.1).map (Qf6 x))) ∧ Wrt b g6 w18 y.2 w' ∧ SlS Qbr 1 w' b y.2 (some a) ppl ∧ SlS Qd4 2 w' b y.2 A8 F)
    (fun | (j,_) => [(0,.pointer (some ⟨p,0,none⟩)),(1,.int .i64 (Qgt now)),(5,.pointer (some ⟨b,0,none⟩)),(6,.func (.func 36) #[] #[.pointer (some ⟨b,0,none⟩)]),(13,.string x),(100,.slice (some a) ppl.length c7),(101,.int .i64 ppl.length),(102,.int .i64 (k:Nat)),(112,.slice A8 F.length c8),(113,.int .i64 F.length),(114,.int .i64 (j:Nat))]) (fun y => F.length - y.1) (0,g8) ⟨Nat.zero_le _,h0,hw8,hsl8,hsf8⟩ ⟨rfl,rfl,rfl,rfl,rfl,rfl,rfl,rfl,rfl,rfl,rfl,trivial⟩ ?_
   clear h0 hw8 hsl8 hsf8 hD8
   rintro ⟨j,g9⟩ w22 ⟨hj,hD,hw,hsl,hsf⟩
   simp only at hj hD hw hsl hsf
   conv=>whnf
   constructor
   · intro hlt2
     have hlt2 : j < F.length := by simpa using hlt2
     obtain ⟨a4,rfl,hcb⟩ := hsf.sl.get hlt2
     have htj := Xv (Qf6 x) F j hlt2
     have hpj := Qbu (Qf6 x) F (j + 1)
     rw [htj,ByteArray.size_append] at hpj
     have hyb := hFin F[j] (List.getElem_mem hlt2)
     generalize F[j] = y at hcb htj hpj hyb
     have hthy : Qf6 x y = Qdb [Qq3,x,y.1,nB y.2] := rfl
     rw [hthy] at htj hpj
     generalize X5 ((F.take j).map (Qf6 x)) = u2 at htj hpj hD
     (conv=>whnf);repeat(refine Sg ?_;(conv=>whnf))
     refine ⟨a4,⟨rfl,by omega,by omega⟩,?_⟩; (conv=>whnf);repeat(refine Sg ?_;(conv=>whnf))
     refine ⟨Qd4 y,⟨rfl,hcb⟩,?_⟩; (conv=>whnf);repeat(refine Sg ?_;(conv=>whnf))
     intro b8 w23 hn4; (conv=>whnf);repeat(refine Sg ?_;(conv=>whnf))
     refine Qj Qa (e := ty98) rfl hn4.At rfl rfl rfl (by simp [Qm,Qd4,Value.oneCell']) fun w24 h5 ho5 => ?_
     have h5 : At w24 b8 98 (Qd4 y) := h5
     have hx25 : Ext w22 w24 := ho5.ext hn4.ext (by rw [hn4.block]; exact Nat.le_refl _)
     clear ho5 hn4
     (conv=>whnf);repeat(refine Sg ?_;(conv=>whnf))
     refine Dr .ext [0,1,2,3,4,5,6,7] [8] ?_;conv=>whnf
     have hxd : Ext w24 w24.drew := (Ext.refl w24).drew
     replace hx25 := hx25.trans hxd
     replace h5 := h5.ext hxd
     clear hxd
     generalize w24.drew = w25 at hx25 h5 ⊢
     refine ⟨.string y.1,h5.one rfl,?_⟩;conv=>whnf
     refine ⟨.int .i64 y.2,h5.one rfl,?_⟩;conv=>whnf
     refine (Qi7 y.2 w25 (hD.gl.ext hx25) (by omega) (by omega)).mono ?_
     rintro _ w26 ⟨rfl,hx7⟩
     refine ⟨hx7,?_⟩;conv=>whnf
     replace hx25 := hx25.trans hx7
     have hD7 := hD.ext hx25
     intro b10 w27 hn10
     refine ⟨hn10.ext,?_⟩;conv=>whnf
     refine (hD7.line [Qq3,x,y.1,nB y.2] rfl hn10 (by simp) (by simp only [ByteArray.size_append]; omega) 4 rfl).mono ?_
     rintro _ w28 ⟨rfl,g11,hD11,hw11⟩
     rw [ByteArray.append_assoc (a := s6 ++ u),← htj] at hD11
     (conv=>whnf);repeat(refine Sg ?_;(conv=>whnf))
     refine ⟨_,wrap_succ (by omega),?_⟩; (conv=>whnf);repeat(refine Sg ?_;(conv=>whnf))
     have hw2 : Wrt b g9 w22 g11 w28 := (Wrt.ext hx25).trans hw11
     exact ⟨(j + 1,g11),by simp only; omega,⟨by simp only; omega,hD11,hw.trans hw2,hsl.wrt hw2,hsf.wrt hw2⟩,⟨rfl,rfl,rfl,rfl,rfl,rfl,rfl,rfl,rfl,rfl,rfl,trivial⟩⟩
   · intro hge
     have hge : F.length ≤ j := by simpa using hge
     rw [List.take_of_length_le hge,ByteArray.append_assoc,← htk] at hD
     (conv=>whnf);repeat(refine Sg ?_;(conv=>whnf))
     refine ⟨_,wrap_succ (by omega),?_⟩; (conv=>whnf);repeat(refine Sg ?_;(conv=>whnf))
     exact ⟨(k + 1,g9),by simp only; omega,⟨by simp only; omega,hD,hw,hsl⟩,⟨rfl,rfl,rfl,rfl,rfl,rfl,rfl,trivial⟩⟩
 intro hge
 have hge : ppl.length ≤ k := by simpa using hge
 rw [List.take_of_length_le hge] at hD
 (conv=>whnf);repeat(refine Sg ?_;(conv=>whnf))
 refine (Q48 hD.bl hdne).mono ?_
 rintro _ w21 ⟨rfl,hw21⟩; (conv=>whnf);repeat(refine Sg ?_;(conv=>whnf))
 have hwf := hw.trans hw21
 refine ⟨rfl,T6,hD.wt.keep fun i hi => hw21.block (hD.safe i hi) (hD.wt.lt i hi),hTf,hwf.mod.os.trans hMw.os,hwf.mod.tape.trans hMw.tape,hwf.mod.output.trans hMw.output,Nat.le_trans hMw.size hwf.mod.size,fun i hi hn => (hwf.mod.block i (by have := hMw.size; omega) ?_).trans (hMw.block i hi hn)⟩
 rintro (e | e)
 · omega
 · have := hg6 i e
   omega
end Go.Proofs.YteabekcdcphjpaaGreatDoor
