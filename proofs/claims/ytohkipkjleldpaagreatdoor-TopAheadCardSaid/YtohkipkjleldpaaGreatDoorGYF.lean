/- Several texts in one: Y14, Y17, Y15. -/
import Derived.Test.YtohkipkjleldpaaGreatDoorGYD
import Derived.Test.YtohkipkjleldpaaGreatDoorGYE
set_option linter.unusedVariables false
set_option linter.unusedSimpArgs false
namespace Go.Proofs.YtohkipkjleldpaaGreatDoor
open Go.Se Go.RowKit Go.Sort
def Xeb (x:ByteArray×FuncId):List Value := [.string x.1,.func (.func x.2) #[] #[]]
theorem Q81 (x:ByteArray×FuncId):(Xeb x).length=2:=rfl
def Xbx:List (ByteArray×FuncId) := [(⟨#[112,111,112,117,108,97,114]⟩,187),(⟨#[114,105,115,105,110,103]⟩,188),(⟨#[107,105,110]⟩,189),(⟨#[102,111,108,108,111,119,101,100]⟩,190),(⟨#[102,114,101,115,104]⟩,191),(⟨#[97,103,97,105,110]⟩,192)]
theorem Qtv (w:World):Cal Tryz.prog 114 [] w fun r w'=>∃ b,r = .slice (some ⟨b,0,none⟩) 6 6∧Sl Xeb 2 w' (some ⟨b,0,none⟩) Xbx∧Ext w w':=by
 refine Fi Tryz.func114 rfl _ rfl rfl (Hh ?_);intro b1 w1 hn1;conv=>whnf
 exact⟨b1,rfl,Qbd (enc:=Xeb) (l:=Xbx) Q81 hn1,hn1.ext⟩
theorem Q4f (limit:Int):(max limit 0).toNat=limit.toNat:=by omega
set_option maxHeartbeats 1000000 in
theorem Qv1 {w:World} {T:Nat→Prop} {p:Nat} {c:Cfg} {z:List Ev} {v:Value} (h:WQ w T p c z v) (hok:Quc c z) (k:Nat) (hk:k<6) (hk2:k≠2) (person:ByteArray) (now limit:Int) (hnow:0≤now∧now≤1099511627776) (hl:0≤limit∧limit≤9223372036854775807) :
 Cal Tryz.prog (Xbx[k]'hk).2 [.pointer (some ⟨p,0,none⟩),.string person,.int .i64 now,.int .i64 limit] w fun r w'=>Qlb c z person now limit k w r w':=by
 rcases k with _ | _ | _ | _ | _ | _ | k
 · exact Qsx h hok person now limit hnow hl
 · exact Q0w h hok person now limit hnow hl
 · exact absurd rfl hk2
 · exact Qpk h hok person now limit hl
 · exact Qm8 h hok person now limit hnow hl
 · exact Qyw h hok person now limit hnow hl
 · omega
theorem Q8e {St:(Nat→Prop)→World→Prop} {w:World} {T:Nat→Prop} {n0 p:Nat} {c:Cfg} {z:List Ev} (hP:PSt St n0 p c z) (h:St T w) (hok:Quc c z) (k:Nat) (hk:k<6) (person:ByteArray) (now limit:Int) (hnow:0≤now∧now≤1099511627776) (hl:0≤limit∧limit≤9223372036854775807) :
 Cal Tryz.prog (Xbx[k]'hk).2 [.pointer (some ⟨p,0,none⟩),.string person,.int .i64 now,.int .i64 limit] w fun r w'=>Q15 St ((Qd3 c z person now k).take limit.toNat) T w r w':=by
 by_cases hk2:k=2
 · subst hk2
   exact Q0x hP h hok person now limit hl
 · obtain⟨v,T0,hQ⟩:=hP.wq h
   exact(Qv1 hQ hok k hk hk2 person now limit hnow hl).mono fun r w' hr=>hr.p hP h
theorem one_any {w:World} (p:Nat) (r:Int) (person:ByteArray) (now limit:Int) (hl:limit≤9223372036854775807) {R:Value→World→Prop}
 (hno:¬ (0≤r∧r≤5∧0≤now∧now≤1099511627776)→∀ w1,Ext w w1→R (.slice none 0 0) w1)
 (hyes:∀ (k:Nat) (hk:k<6),r=k→0≤now∧now≤1099511627776→∀ w1,Ext w w1→Cal Tryz.prog (Xbx[k]'hk).2 [.pointer (some ⟨p,0,none⟩),.string person,.int .i64 now,.int .i64 (max limit 0)] w1 R) :
 Cal Tryz.prog 115 [.pointer (some ⟨p,0,none⟩),.int .i64 r,.string person,.int .i64 now,.int .i64 limit] w R:=by
 refine Fi Tryz.func115 rfl _ rfl rfl (Hh ?_);refine(Qtv w).mono ?_;rintro _ w1 ⟨b,rfl,hs,hx1⟩;conv=>whnf
 constructor
 · intro hq
   have hq:¬ (0≤r∧r≤5∧0≤now∧now≤1099511627776):=by simp at hq;omega
   conv=>whnf
   exact hno hq w1 hx1
 · intro hq
   have hq:0≤r∧r≤5∧0≤now∧now≤1099511627776:=by simp at hq;omega
   obtain⟨k,rfl⟩:∃ k:Nat,r=k:=⟨r.toNat,by omega⟩;have hk:k<6:=by omega
   obtain⟨a,hA,hc⟩:=hs.get (show k<Xbx.length from hk);have hcal:=hyes k hk rfl ⟨hq.2.2.1,hq.2.2.2⟩ w1 hx1
   conv=>whnf
   refine⟨a,⟨hA,by omega,by omega⟩,Hh ?_⟩;generalize hf:Xbx[k]=wf at hc hcal;refine⟨.func (.func wf.2) #[] #[],cells_at hc (k:=1) rfl,Hh ?_⟩;refine hcal.mono ?_;rintro v w2 hv
   conv=>whnf
   exact hv
theorem Q8c {c:Cfg} {z:List Ev} {person:ByteArray} {now limit:Int} {k:Nat} (hk:k<6) (hnow:0≤now∧now≤1099511627776):Qft c z person now k limit=(Qd3 c z person now k).take (max limit 0).toNat:=by
 unfold Qft;rw[if_pos ⟨by omega,by omega,hnow.1,hnow.2⟩,Q4f,Int.toNat_natCast]
theorem Q5a {c:Cfg} {z:List Ev} {person:ByteArray} {now r limit:Int} (h:¬ (0≤r∧r≤5∧0≤now∧now≤1099511627776)):Qft c z person now r limit = []:=by
 unfold Qft;rw[if_neg h]
theorem Q73 {St:(Nat→Prop)→World→Prop} {w:World} {T:Nat→Prop} {n0 p:Nat} {c:Cfg} {z:List Ev} (hP:PSt St n0 p c z) (h:St T w) (hok:Quc c z) (r:Int) (person:ByteArray) (now limit:Int) (hl:limit≤9223372036854775807) :
 Cal Tryz.prog 115 [.pointer (some ⟨p,0,none⟩),.int .i64 r,.string person,.int .i64 now,.int .i64 limit] w fun v w'=>Q15 St (Qft c z person now r limit) T w v w':=by
 refine one_any p r person now limit hl (fun hq w1 hx1 => ?_) (fun k hk hr hnow w1 hx1 => ?_)
 · rw[Q5a hq]
   exact⟨none,0,T,rfl,Own.nil,fun a ha=>(by cases ha),hP.ext h hx1,fun k hk => .inl hk,Mod.of_ext hx1⟩
 · subst hr
   rw[Q8c hk hnow];refine(Q8e hP (hP.ext h hx1) hok k hk person now (max limit 0) hnow ⟨by omega,by omega⟩).mono ?_;rintro v w2 ⟨A,cp,T',h1,h2,h3,h4,h5,h6⟩
   exact⟨A,cp,T',h1,h2.base hx1.size,h3,h4,fun k hk=>(h5 k hk).imp id fun h=>Nat.le_trans hx1.size h,(Mod.of_ext hx1).trans h6⟩
theorem Qs0 {c:Cfg} {z:List Ev} (hm:∀ e∈z,Xn e=true) {person:ByteArray} {now:Int} {r:Nat} {x:ByteArray} (h:x∈Qd3 c z person now r):Qn x=true∧x∈z.map (·.item):=by
 have hwp:∀ e,e∈z.filter wpB→Qn e.item=true∧e.item∈z.map (·.item):=fun e he=>⟨(Qqy hm he).2,List.mem_map.2 ⟨_,(List.mem_filter.1 he).1,rfl⟩⟩
 have hnw:∀ q:It→Bool,x∈(Qx0 z now q).map (·.1)→Qn x=true∧x∈z.map (·.item):=fun q hq=>by
  obtain⟨e,he,rfl⟩:=List.mem_map.1 (Qjd (Q0i hq))
  exact⟨Q1l hm he,List.mem_map.2 ⟨e,(List.mem_filter.1 he).1,rfl⟩⟩
 unfold Qd3 at h
 split at h
 · obtain⟨y,hy,rfl⟩:=List.mem_map.1 h
   have hy2:=(Qe3 _).mem_iff.1 hy;rw[(Qdd c.width z).1] at hy2;unfold Qfu at hy2;obtain⟨k,hk,rfl⟩:=List.mem_map.1 (List.mem_filter.1 hy2).1;obtain⟨d,hd,rfl⟩:=List.mem_map.1 hk;obtain⟨e,he,hi⟩:=(Q26 _).2 d hd;have:=hwp e he;rw[hi] at this
   exact this
 split at h
 · obtain⟨y,hy,rfl⟩:=List.mem_map.1 h
   have h1:=Qgy.1 ((Qe4 _ _).mem_iff.1 hy);unfold Xcy Qdc at h1;obtain⟨k,hk,hke⟩:=List.mem_map.1 (List.mem_filter.1 h1).1;have hkk:y.1.1=k:=by rw[← hke];rfl
   rw[hkk];rw[(Qdd c.width z).2.1] at hk;unfold Qdu at hk;rw[Xp] at hk;obtain⟨d,hd,rfl⟩:=List.mem_map.1 hk;obtain⟨e,he,hi⟩:=(Q79 c.width _).2 d (List.mem_filter.1 hd).1;have:=hwp e he;rw[hi] at this
   exact this
 split at h
 · obtain⟨y,hy,rfl⟩:=List.mem_map.1 h
   have h1:=Qgy.1 ((Qe4 _ _).mem_iff.1 hy);refine((Qhv (Q:=fun q:Nr=>Qn q.1=true∧q.1∈z.map (·.item)) _ [] (by simp) (by simp) fun q hq => ?_).2 _ h1).2;obtain⟨a,_,hq⟩:=List.mem_flatMap.1 hq;unfold Qfs at hq;obtain⟨b,hb,rfl⟩:=List.mem_map.1 hq;have hb:=(List.mem_filter.1 hb).1;unfold Qdx at hb;obtain⟨e,he,hi⟩:=List.mem_map.1 (Qpj c z (List.mem_filter.1 (Xp.1 hb)).1);have:=hwp e he;rw[hi] at this
   exact this
 split at h
 · exact hnw _ h
 split at h
 · exact hnw _ h
 split at h
 · obtain⟨y,hy,rfl⟩:=List.mem_map.1 h
   have h2:=(List.mem_filter.1 ((Qe3 _).mem_iff.1 hy)).1;obtain⟨e,he,hi⟩:=List.mem_map.1 (Qsg h2).1;have h3:=List.mem_filter.1 he
   have h4:e∈z:=by
    have h1:=h3.1;unfold Qkh hist Qb4 at h1
    exact(List.mem_filter.1 (List.mem_filter.1 h1).1).1
   rw[← hi]
   exact⟨(Qdz (hm e h4) (by simpa using h3.2)).2,List.mem_map.2 ⟨e,h4,rfl⟩⟩
 · cases h
theorem Q8d {c:Cfg} {z:List Ev} (hm:∀ e∈z,Xn e=true) (hS:(Qk1 c z).length<1000) (person:ByteArray) (now:Int) (r:Nat):(Qd3 c z person now r).length≤z.length:=by
 have h:=Qdh (Qof hS person now r) fun x hx=>(Qs0 hm hx).2
 rw[List.length_map] at h
 exact h
theorem Q49 {c:Cfg} {z:List Ev} (hm:∀ e∈z,Xn e=true) (hS:(Qk1 c z).length<1000) (person:ByteArray) (now r limit:Int):(Qft c z person now r limit).length≤z.length:=by
 unfold Qft
 split
 · have:=Q8d hm hS person now r.toNat
   rw[List.length_take];omega
 · simp
end Go.Proofs.YtohkipkjleldpaaGreatDoor
namespace Go.Proofs.YtohkipkjleldpaaGreatDoor
open Go.Se Go.RowKit Go.Sort Go.Shelf
theorem Qz4 (mb:Option Nat) (w:World):Cal Tryz.prog 116 [.map mb] w fun r w'=>r = .func (.func 193) #[] #[.pointer (some ⟨w.heap.size,0,none⟩)]∧w'.cell? ⟨w.heap.size,0,none⟩=some (.map mb)∧Ext w w' :=
 Qex Tryz.keys116 ⟨_,Tryz.func116,rfl,rfl⟩ mb w
theorem Qte {w:World} {Bm b:Nat} {L:List (ByteArray×Value)} (hc:w.cell? ⟨Bm,0,none⟩=some (.map (some b))) (hm:MapAt w b Value.string L) (hk:∀ x∈L,x.1.size≤1000000) (hl:L.length≤1000000000) :
 Cal Tryz.prog 35 [.func (.func 193) #[] #[.pointer (some ⟨Bm,0,none⟩)]] w fun r w'=>∃ A c,r = .slice A (Xb (L.map (·.1))).length c∧Own Qav 1 9 w.heap.size w' A c (Xb (L.map (·.1)))∧Ext w w':=by
 obtain⟨N,Q,h1,h2,h3⟩:=Qf0 { Tryz.keys116 with } hc hm hk hl
 exact Qc5 Tryz.sorted35 Qtf (enters_of Tryz.func67 (by kernel_rfl) rfl) (enters_of Tryz.func193 (by kernel_rfl) rfl) ⟨_,Tryz.func35,rfl,rfl⟩ h2 h1 h3
def rdStep (r:Int) (f:ByteArray→List Int) (x:ByteArray):ByteArray→List Int:=Qkl f x (f x ++ [r])
theorem Q42 (r:Int):∀ (l:List ByteArray) (f:ByteArray→List Int),l.Nodup→∀ x,(l.foldl (rdStep r) f) x=if x∈l then f x ++ [r] else f x
 | [],f,_,x=>by simp
 | a :: l,f,hn,x=>by
   rw[List.nodup_cons] at hn;rw[List.foldl_cons,Q42 r l _ hn.2 x];unfold rdStep Qkl
   by_cases h:x=a
   · subst h
     rw[if_neg hn.1,if_pos rfl,if_pos (by simp)]
   · rw[if_neg h]
     by_cases h2:x∈l
     · rw[if_pos h2,if_pos (by simp[h2])]
     · rw[if_neg h2,if_neg (by simp[h,h2])]
def Q1z (c:Cfg) (z:List Ev) (person:ByteArray) (now limit:Int) (k:Nat) (x:ByteArray):List Int:=((List.range k).filter fun r=>decide (x∈Qft c z person now (r:Nat) limit)).map fun r=>((r:Nat):Int)
theorem Q43 (c:Cfg) (z:List Ev) (person:ByteArray) (now limit:Int) (k:Nat) (x:ByteArray):Q1z c z person now limit (k+1) x=if x∈Qft c z person now (k:Nat) limit then Q1z c z person now limit k x ++ [(k:Int)] else Q1z c z person now limit k x:=by
 unfold Q1z;rw[List.range_succ,List.filter_append,List.map_append]
 by_cases h:x∈Qft c z person now (k:Nat) limit
 · rw[if_pos h];simp[h]
 · rw[if_neg h];simp[h]
theorem Q8b (c:Cfg) (z:List Ev) (person:ByteArray) (now limit:Int) (k:Nat) (x:ByteArray):(Q1z c z person now limit k x).length≤k:=by
 unfold Q1z;rw[List.length_map];refine Nat.le_trans (List.length_filter_le _ _) ?_
 simp
def Qhx (c:Cfg) (z:List Ev) (person:ByteArray) (now limit:Int):List ByteArray:=Qbt ((List.range 6).flatMap fun r=>Qft c z person now (r:Nat) limit)
theorem Q63 {c:Cfg} {z:List Ev} {person:ByteArray} {now limit:Int} {x:ByteArray}:x∈Qhx c z person now limit↔Q1z c z person now limit 6 x ≠ []:=by
 unfold Qhx Q1z;rw[Xp,List.mem_flatMap];constructor
 · rintro ⟨r,hr,hx⟩ h
   have:(r:Int)∈(((List.range 6).filter fun r=>decide (x∈Qft c z person now (r:Nat) limit)).map fun r=>((r:Nat):Int)):=List.mem_map.2 ⟨r,List.mem_filter.2 ⟨hr,by simpa using hx⟩,rfl⟩;rw[h] at this
   cases this
 · intro h
   obtain⟨y,hy⟩:=List.exists_mem_of_ne_nil _ h;obtain⟨r,hr,_⟩:=List.mem_map.1 hy;obtain⟨h1,h2⟩:=List.mem_filter.1 hr
   exact⟨r,h1,by simpa using h2⟩
theorem Qrc {c:Cfg} {z:List Ev} (hm:∀ e∈z,Xn e=true) {person:ByteArray} {now limit:Int} {x:ByteArray} (h:x∈Qhx c z person now limit):Qn x=true∧x∈z.map (·.item):=by
 unfold Qhx at h;obtain⟨r,_,hx⟩:=List.mem_flatMap.1 (Xp.1 h)
 exact Qs0 hm (Q5b hx)
theorem Qw8 {c:Cfg} {z:List Ev} (hm:∀ e∈z,Xn e=true) (person:ByteArray) (now limit:Int):(Qhx c z person now limit).length≤z.length:=by
 have h:=Qdh (V:=Qhx c z person now limit) (Qcm _) fun x hx=>(Qrc hm hx).2
 rw[List.length_map] at h
 exact h
theorem Q6i:Tryz.prog.underlying 234=some (.map 9 161):=by kernel_rfl
theorem Xc3:Qne Tryz.prog 161 238 Qgr 1 8:=⟨by kernel_rfl,⟨_,ty238_ok,rfl,rfl⟩,by238,by decide,by decide,Qax,fun x=>by simp[Qgr,Value.oneCell']⟩
abbrev Cd:=ByteArray×SV
def cdC (x:Cd):List Value := [.string x.1,.slice x.2.1 x.2.2.1 x.2.2.2]
theorem Q2s (x:Cd):(cdC x).length=2:=rfl
theorem Xc0:Qne Tryz.prog 159 163 cdC 2 40:=⟨by kernel_rfl,⟨_,ty163_ok,rfl,rfl⟩,by163,by decide,by decide,Q2s,fun x=>by simp[cdC,Value.oneCell']⟩
structure Xdp (c:Cfg) (z:List Ev) (person:ByteArray) (now limit:Int) (n:Nat) (T':Nat→Prop) (w':World) (A:Option Addr) (H:List Cd):Prop where
 sl:Sl cdC 2 w' A H
 keys:H.map (·.1)=Qhx c z person now limit
 row:∀ d∈H,d.2.2.1=(Q1z c z person now limit 6 d.1).length∧SlI w' d.2.1 (Q1z c z person now limit 6 d.1)∧∀ a,d.2.1=some a→n≤a.block∧¬ T' a.block
 new:∀ a,A=some a→n≤a.block∧¬ T' a.block
set_option maxHeartbeats 8000000 in
theorem Q29 {St:(Nat→Prop)→World→Prop} {w:World} {T:Nat→Prop} {n0 p:Nat} {c:Cfg} {z:List Ev} (hP:PSt St n0 p c z) (h:St T w) (hok:Quc c z) (hS:(Qk1 c z).length<1000) (person:ByteArray) (now limit:Int) (hl:limit≤9223372036854775807) :
 Cal Tryz.prog 75 [.pointer (some ⟨p,0,none⟩),.string person,.int .i64 now,.int .i64 limit] w fun r w'=>∃ A cp H T',r = .slice A H.length cp∧Xdp c z person now limit w.heap.size T' w' A H∧St T' w'∧(∀ k,T' k→T k∨w.heap.size≤k)∧Mod T w w':=by
 have hlow:=hP.low h;have hTl:=hP.lt h
 have hm:∀ e∈z,Xn e=true:=by
  obtain⟨v,T0,hQ⟩:=hP.wq h
  exact hQ.may
 have hsz:∀ x∈Qhx c z person now limit,x.size≤1000000:=fun x hx=>by
  have:=Qdv (Qrc hm hx).1;omega
 have hcl:=Qw8 (c:=c) hm person now limit;have hzl:=hok.len;replace hcl:(Qhx c z person now limit).length<1000000:=by omega
 refine Fi Tryz.func75 rfl _ rfl rfl (Hh ?_);intro b1 w1 hn1;have e1:=hn1.block;have hR1:Qa0 Qgr 1 238 w1 (fun k=>k=b1) b1 (fun _=>([]:List Int)) []:=Qa0.new hn1 rfl;have hx1:=hn1.ext;have z1:=hn1.size;clear hn1;refine Gg ?_;refine(Qtv w1).mono ?_;rintro _ w2 ⟨bw,rfl,_,hx2⟩;have z2:=hx2.size;replace hR1:Qa0 Qgr 1 238 w2 (fun k=>k=b1) b1 (fun _=>([]:List Int)) []:=hR1.keep fun k hk hs=>⟨hx2.block k hk,hs⟩
 have h2:=hP.ext h (hx1.trans hx2);have hM2:Mod T w w2:=Mod.of_ext (hx1.trans hx2);refine Gg ?_
 refine Qh Qa (fun(q:Nat×(Nat→Prop)×(Nat→Prop)×(ByteArray→List Int)×List (ByteArray×(Option Addr×Nat))) w'=>q.1≤6∧(∀ x,q.2.2.2.1 x=Q1z c z person now limit q.1 x)∧Qa0 Qgr 1 238 w' q.2.2.1 b1 q.2.2.2.1 q.2.2.2.2∧(∀ k,q.2.2.1 k→w.heap.size≤k∧k<w'.heap.size∧¬ q.2.1 k)∧St q.2.1 w'∧(∀ k,q.2.1 k→T k∨w.heap.size≤k)∧Mod T w w')
  (fun | (k,_) => [(0,.pointer (some ⟨p,0,none⟩)),(1,.string person),(2,.int .i64 now),(3,.int .i64 limit),(9,.map (some b1)),(18,.int .i64 6),(19,.int .i64 (k:Nat))]) (fun q=>6-q.1) (0,T,(fun k=>k=b1),(fun _ => []),[]) ⟨Nat.zero_le _,fun x=>rfl,hR1,fun k hk=>by subst hk;exact⟨by omega,by omega,fun hT=>by have:=hTl _ hT;omega⟩,h2,fun k hk => .inl hk,hM2⟩ Rr ?_
 clear hR1 h2 hM2 hx1 hx2;rintro ⟨k,T1,S1,f,L⟩ wa ⟨hk,hf,hRa,hSa,hWa,hTa,hMa⟩;simp only at hk hf hRa hSa hWa hTa;have za:=hMa.size;refine Gg ?_;constructor
 · intro hlt
   have hlt:k<6:=by
    have:(k:Int)<6:=by simpa using hlt
    omega
   refine Gg ?_;refine(Q73 hP hWa hok k person now limit hl).mono ?_;rintro _ wb ⟨A,cp,T2,rfl,hown,hAT,hWb,hTb,hMb⟩;have zb:=hMb.size;have hT2l:=hP.lt hWb;have hRb:Qa0 Qgr 1 238 wb S1 b1 f L:=hRa.keep fun i hi hs=>⟨hMb.block i hi (hSa i hs).2.2,hs⟩
   have hS2:∀ i,S1 i→¬ T2 i:=fun i hs ht=>by
    rcases hTb i ht with q | q
    · exact(hSa i hs).2.2 q
    · have:=(hSa i hs).2.1;omega
   have hTc:∀ i,T2 i→T i∨w.heap.size≤i:=fun i ht=>by
    rcases hTb i ht with q | q
    · exact hTa i q
    · exact .inr (by omega)
   have hMc:Mod T w wb:=Qp hMa (hMb.mono fun i _ hi=>hTa i hi);have hnd:=Qv0 hS person now (k:Nat) limit;have hsu:=Q43 c z person now limit k;have hfl:∀ x,(f x).length≤6:=fun x=>by rw[hf];have:=Q8b c z person now limit k x;omega
   have hsA:=hown.sl Xi;have hAb:∀ a,A=some a→¬ S1 a.block:=fun a ha hs=>by have:=(hSa _ hs).2.1;have:=(hown.block ha).1;omega
   have hQl:(Qft c z person now (k:Nat) limit).length<1000000:=by have:=Q49 hm hS person now (k:Nat) limit;omega
   generalize Qft c z person now (k:Nat) limit=Q at hown hnd hsu hsA hQl ⊢;clear hRa hWa hTa hTb hMa hMb hown;refine Gg ?_
   refine Qh Qa (fun(q:Nat×(Nat→Prop)×(ByteArray→List Int)×List (ByteArray×(Option Addr×Nat))) w'=>q.1≤Q.length∧q.2.2.1=(Q.take q.1).foldl (rdStep k) f∧Qa0 Qgr 1 238 w' q.2.1 b1 q.2.2.1 q.2.2.2∧(∀ i,q.2.1 i→w.heap.size≤i∧i<w'.heap.size∧¬ T2 i)∧(∀ i,q.2.1 i→i<wb.heap.size→S1 i)∧(∀ i,i<wb.heap.size→¬ S1 i→w'.heap[i]? = wb.heap[i]?)∧Mod (fun i=>w.heap.size≤i) wb w')
    (fun | (j,_) => [(0,.pointer (some ⟨p,0,none⟩)),(1,.string person),(2,.int .i64 now),(3,.int .i64 limit),(9,.map (some b1)),(10,.int .i64 (k:Nat)),(18,.int .i64 6),(19,.int .i64 (k:Nat)),(27,.slice A Q.length cp),(28,.int .i64 Q.length),(29,.int .i64 (j:Nat))]) (fun q=>Q.length-q.1) (0,S1,f,L) ⟨Nat.zero_le _,rfl,hRb,fun i hi=>⟨(hSa i hi).1,by have:=(hSa i hi).2.1;omega,hS2 i hi⟩,fun i hi _=>hi,fun i _ _=>rfl,Mod.refl _ _⟩ Rr ?_
   clear hRb;rintro ⟨j,S,g,L1⟩ wc ⟨hj,hg,hRc,hSc,hSo,hkc,hMd⟩;simp only at hj hg hRc hSc hSo;have zc:=hMd.size
   have hgl:∀ x,(g x).length≤7:=fun x=>by
    rw[hg,Q42 _ _ _ (hnd.sublist (List.take_sublist _ _))];have:=hfl x
    split
    · rw[List.length_append];simp;omega
    · omega
   refine Gg ?_;constructor
   · intro hlt2
     have hlt2:j<Q.length:=by simpa using hlt2
     have hsA':SlT wc A Q:=Qb6.stay hsA fun a ha hlt3=>hkc _ hlt3 (hAb a ha)
     obtain⟨ax,hAx,hcx⟩:=hsA'.get hlt2;have htk:(Q.take (j+1)).foldl (rdStep k) f=rdStep k g Q[j]:=by rw[List.take_succ_eq_append_getElem hlt2,List.foldl_append,← hg];rfl
     generalize Q[j]=x at hcx htk;refine Gg ?_;refine⟨ax,⟨hAx,by omega,by omega⟩,Gg ?_⟩;refine⟨.string x,Qv hcx,Gg ?_⟩;refine⟨_,hRc.look Q6i Xc (e:=ty161) ty161_ok rfl x Qm,Gg ?_⟩;intro be we hne;refine Gg ?_;have hro:=hRc.own x;have hgx:=hgl x;have hbm:=hRc.map.lt;have ze:=hne.ext.size;have ze2:=hne.size;refine Qs Xc3 (l:=g x) (news := [(k:Int)]) rfl (hro.1.ext hne.ext) rfl (Xc3.new1 (x:=(k:Int)) hne) (by simp;omega) (Nat.zero_le _) fun Af cf wf hownf hgf hAf => ?_
     have hrb:∀ i,(rowAt L1 x).1.map (·.block)=some i→S i∧i≠b1:=fun i hi=>by
      cases hq:(rowAt L1 x).1 with
      | none=>rw[hq] at hi;simp at hi
      | some a=>rw[hq] at hi;simp at hi;subst hi;exact hro.2 a hq
     have hmf:MapAt wf b1 Value.string (toV g L1):=(hRc.map.ext hne.ext).keep (hgf.block b1 (hRc.map.ext hne.ext).lt fun e=>(hrb b1 e.symm).2 rfl);have zf:=hgf.size;generalize hrow:g x ++ [(k:Int)]=row at hownf ⊢;have hrne:row ≠ []:=by rw[← hrow];simp
     refine Gg ?_;refine Qq Q6i (Qo Xc) hmf x _ fun wg hmg hog => ?_
     have hpush:=hRc.push (k:=x) (r:=row) hrne hne.ext hgf hAf hownf hmg hog;have zg:=hog.size;have hupd:Qkl g x row=(Q.take (j+1)).foldl (rdStep k) f:=by rw[htk,← hrow];rfl
     rw[hupd] at hpush;have hS1b:S b1:=hRc.mine
     have hcg:∀ i,i<wc.heap.size→¬ S i→wg.heap[i]? = wc.heap[i]? := fun i hi hs=>by
      rw[hog.block i (fun e=>hs (by rw[e];exact hS1b)),hgf.block i (by omega) (fun e=>hs (hrb i e.symm).1)]
      exact hne.ext.block i hi
     refine Gg ?_;refine⟨_,wrap_succ (by omega),Gg ?_⟩;refine⟨(j+1,(fun i=>Grow S wc i∧i<wg.heap.size),(Q.take (j+1)).foldl (rdStep k) f,Q7 L1 x (Af,cf)),by simp only;omega,⟨by simp only;omega,rfl,hpush.keep fun i hi hs=>⟨rfl,hs,hi⟩,fun i hi => ?_,fun i hi hlt4 => ?_,fun i hi hs => ?_,?_⟩,Rr⟩
     · obtain⟨hi1,hi2⟩:=hi
       rcases hi1 with hi1 | hi1
       · exact⟨(hSc i hi1).1,hi2,(hSc i hi1).2.2⟩
       · exact⟨by omega,hi2,fun ht=>by have:=hT2l i ht;omega⟩
     · obtain⟨hi1,_⟩:=hi
       rcases hi1 with hi1 | hi1
       · exact hSo i hi1 hlt4
       · omega
     · rw[hcg i (by omega) (fun h=>hs (hSo i h hi))]
       exact hkc i hi hs
     · refine hMd.trans ⟨by rw[hog.os,hgf.os,hne.ext.os],by rw[hog.tape,hgf.tape,hne.ext.tape],by rw[hog.output,hgf.output,hne.ext.output],by omega,fun i hi hs=>hcg i hi fun h=>hs (hSc i h).1⟩
   · intro hge2
     have hge2:Q.length≤j:=by simpa using hge2
     rw[List.take_of_length_le hge2] at hg;have hfin:∀ x,g x=Q1z c z person now limit (k+1) x:=fun x=>by rw[hg,Q42 _ _ _ hnd,hsu,hf]
     have hWc:St T2 wc:=hP.keep hWb fun i hi hc=>hkc i hi fun hs=>by
      rcases hc with q | q
      · exact hS2 i hs q
      · have:=(hSa i hs).1;omega
     refine Gg ?_;refine⟨_,wrap_succ (by omega),Gg ?_⟩;refine⟨(k+1,T2,S,g,L1),by simp only;omega,⟨by simp only;omega,hfin,hRc,hSc,hWc,hTc,?_⟩,Rr⟩
     exact Qp hMc (hMd.mono fun i _ hi => .inr hi)
 intro hge
 have hge:k=6:=by
  have:¬ (k:Int)<6:=by simpa using hge
  omega
 subst hge;have hvk:(toV f L).map (·.1)=L.map (·.1):=by unfold toV;rw[List.map_map];rfl
 have hkn:=Xx hRa.keys
 have hmem:∀ x,x∈L.map (·.1)↔x∈Qhx c z person now limit:=fun x=>by
  rw[Q63,← hf x];constructor
  · intro hx
    obtain⟨y,hy,rfl⟩:=List.mem_map.1 hx
    exact hRa.ne y hy
  · intro hx
    rw[Qkx]
    cases hq:Qe L x with
    | none=>exact absurd (hRa.all x hq) hx
    | some v=>rfl
 have hKe:Xb (L.map (·.1))=Qhx c z person now limit:=by
  unfold Qhx at hmem ⊢
  exact Qga hkn fun x=>(hmem x).trans Xp
 have hLl:L.length=(Qhx c z person now limit).length:=by rw[← hKe,(Qa6 _).length_eq,List.length_map]
 refine Gg ?_;refine(Qz4 (some b1) wa).mono ?_;rintro _ wb ⟨rfl,hcb,hxb⟩;refine Gg ?_;refine(Qte hcb (hRa.map.ext hxb) (fun x hx => ?_) (by rw[show (toV f L).length=L.length by simp[toV]];omega)).mono ?_
 · refine hsz x.1 ((hmem x.1).1 ?_)
   rw[← hvk]
   exact List.mem_map.2 ⟨x,hx,rfl⟩
 rintro _ wc ⟨A,cp,rfl,hown,hxc⟩;rw[hvk,hKe] at hown ⊢;have hxac:=hxb.trans hxc;have hRc:Qa0 Qgr 1 238 wc S1 b1 f L:=hRa.keep fun i hi hs=>⟨hxac.block i hi,hs⟩
 have hsA:=hown.sl Xi;obtain⟨K,hK⟩:∃ K,K=Qhx c z person now limit:=⟨_,rfl⟩;rw[← hK] at hsA hcl ⊢;have hWc:=hP.ext hWa hxac;have zc:=hxac.size;have hT1l:=hP.lt hWa;clear hown hmem hKe hvk hkn hcb hxb hxc hsz hge hk;refine Gg ?_
 refine Qh Qa (fun(q:Nat×Option Addr×Nat×List Cd) w'=>q.1≤K.length∧Ext wc w'∧q.2.2.2=(K.take q.1).map (fun x=>((x,((rowAt L x).1,(f x).length,(rowAt L x).2)):Cd))∧Own cdC 2 163 wc.heap.size w' q.2.1 q.2.2.1 q.2.2.2)
  (fun | (j,B,d,H) => [(9,.map (some b1)),(13,.slice B H.length d),(45,.slice A K.length cp),(46,.int .i64 K.length),(47,.int .i64 (j:Nat))]) (fun q=>K.length-q.1) (0,none,0,[]) ⟨Nat.zero_le _,Ext.refl _,rfl,Own.nil⟩ Rr ?_
 rintro ⟨j,B,d,H⟩ wd ⟨hj,hxd,hH,hownH⟩;simp only at hj hH hownH;have hHl:H.length≤j:=by rw[hH,List.length_map,List.length_take];omega
 refine Gg ?_;constructor
 · intro hlt
   have hlt:j<K.length:=by simpa using hlt
   obtain⟨ax,hAx,hcx⟩:=(hsA.ext hxd).get hlt;have htk:(K.take (j+1)).map (fun x=>((x,((rowAt L x).1,(f x).length,(rowAt L x).2)):Cd))=H ++ [(K[j],((rowAt L K[j]).1,(f K[j]).length,(rowAt L K[j]).2))]:=by rw[List.take_succ_eq_append_getElem hlt,List.map_append,hH];rfl
   generalize K[j]=x at hcx htk;have hRd:Qa0 Qgr 1 238 wd S1 b1 f L:=hRc.keep fun i hi hs=>⟨hxd.block i hi,hs⟩
   have hlk:=hRd.look Q6i Xc (e:=ty161) ty161_ok rfl x (cl := .same) Qm;generalize hrx:(f x).length=n at hlk htk;generalize (rowAt L x).1=Ar at hlk htk;generalize (rowAt L x).2=cr at hlk htk;refine Gg ?_;refine⟨ax,⟨hAx,by omega,by omega⟩,Gg ?_⟩;refine⟨.string x,Qv hcx,Gg ?_⟩;refine⟨_,hlk,Gg ?_⟩;intro be we hne;refine Gg ?_;refine Qs Xc0 (l:=H) (news := [(x,(Ar,n,cr))]) rfl (hownH.ext hne.ext) rfl (Xc0.new1 (x:=(x,(Ar,n,cr))) hne) (by simp;omega) (hxd.trans hne.ext).size fun Af cf wf hownf hgf hAf => ?_
   have hxf:=Qr (hxd.trans hne.ext) hgf (Xy (hownH.ext hne.ext));generalize H ++ [(x,(Ar,n,cr))]=H2 at hownf htk ⊢;refine Gg ?_;refine⟨_,wrap_succ (by omega),Gg ?_⟩
   exact⟨(j+1,Af,cf,H2),by simp only;omega,⟨by simp only;omega,hxf,htk.symm,hownf⟩,Rr⟩
 intro hge;have hge:K.length≤j:=by simpa using hge
 rw[List.take_of_length_le hge] at hH;refine Gg ?_;refine⟨B,d,H,T1,rfl,⟨hownH.sl Q2s,?_,fun e he => ?_,fun a ha => ?_⟩,hP.ext hWc hxd,hTa,hMa.trans (Mod.of_ext (hxac.trans hxd))⟩
 · rw[hH,← hK,List.map_map]
   conv=>rhs;rw[← List.map_id K]
   rfl
 · rw[hH] at he
   obtain⟨x,_,rfl⟩:=List.mem_map.1 he;have ho:=hRc.own x;refine⟨by rw[← hf x],?_,fun a ha => ?_⟩
   · rw[← hf x]
     exact(ho.1.ext hxd).sl Qax
   · obtain⟨q1,q2,q3⟩:=hSa _ (ho.2 a ha).1
     exact⟨q1,q3⟩
 · have h1:=(hownH.block ha).1
   exact⟨by omega,fun ht=>by have:=hT1l _ ht;omega⟩
end Go.Proofs.YtohkipkjleldpaaGreatDoor
