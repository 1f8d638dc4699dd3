/- Several texts in one: Y14, Y17, Y15. -/
import Derived.Test.YtagijlhciclafaaGreatDoorGYD
import Derived.Test.YtagijlhciclafaaGreatDoorGYE
set_option linter.unusedVariables false
set_option linter.unusedSimpArgs false
namespace Go.Proofs.YtagijlhciclafaaGreatDoor
open Go.Se Go.RowKit Go.Sort
def Qrb (x:ByteArray×FuncId):List Value := [.string x.1,.func (.func x.2) #[] #[]]
theorem Qox (x:ByteArray×FuncId):(Qrb x).length=2:=rfl
def Qk1:List (ByteArray×FuncId) := [(⟨#[112,111,112,117,108,97,114]⟩,58),(⟨#[114,105,115,105,110,103]⟩,59),(⟨#[107,105,110]⟩,60),(⟨#[102,111,108,108,111,119,101,100]⟩,61),(⟨#[102,114,101,115,104]⟩,62),(⟨#[97,103,97,105,110]⟩,63)]
theorem Qd4 (w:World):Cal Tryz.prog 30 [] w fun r w'=>∃ b,r = .slice (some ⟨b,0,none⟩) 6 6∧Sl Qrb 2 w' (some ⟨b,0,none⟩) Qk1∧Ext w w':=by
 refine Fi Tryz.func30 rfl _ rfl rfl (Hh ?_);intro b1 w1 hn1;conv=>whnf
 exact⟨b1,rfl,sl_new (enc:=Qrb) (l:=Qk1) Qox hn1,hn1.ext⟩
def Qdo (r:Int):ByteArray:=if 0≤r∧r≤5 then((Qk1.map (·.1))[r.toNat]?).getD ⟨#[]⟩ else⟨#[]⟩
theorem Qdy (r:Int) (w:World):Cal Tryz.prog 14 [.int .i64 r] w fun v w'=>v = .string (Qdo r)∧Ext w w':=by
 refine Fi Tryz.func14 rfl _ rfl rfl (Hh ?_);refine(Qd4 w).mono ?_;rintro _ w1 ⟨b,rfl,hs,hx1⟩;conv=>whnf
 constructor
 · intro hq
   have hq:¬ (0≤r∧r≤5):=by simp at hq;omega
   conv=>whnf
   exact⟨by unfold Qdo;rw[if_neg hq],hx1⟩
 · intro hq
   have hq:0≤r∧r≤5:=by simp at hq;omega
   have hn:Qdo r=((Qk1.map (·.1))[r.toNat]?).getD ⟨#[]⟩:=by unfold Qdo;rw[if_pos hq]
   rw[hn];obtain⟨k,rfl⟩:∃ k:Nat,r=k:=⟨r.toNat,by omega⟩;rw[Int.toNat_natCast];have hk:k<Qk1.length:=by show k<6;omega
   obtain⟨a,hA,hc⟩:=hs.get hk
   conv=>whnf
   refine⟨a,⟨hA,by omega,by omega⟩,Hh ?_⟩;refine⟨.string (Qk1[k]).1,cells_at hc (k:=0) rfl,Hh ?_⟩;refine⟨?_,hx1⟩;rw[List.getElem?_map,List.getElem?_eq_getElem hk]
   rfl
theorem Qgu (limit:Int):(max limit 0).toNat=limit.toNat:=by omega
set_option maxHeartbeats 1000000 in
theorem Qdz {w:World} {T:Nat→Prop} {p:Nat} {c:Cfg} {z:List Ev} {v:Value} (h:WQ w T p c z v) (hok:Qhm c z) (k:Nat) (hk:k<6) (hk2:k≠2) (person:ByteArray) (now limit:Int) (hnow:0≤now∧now≤1099511627776) (hl:0≤limit∧limit≤9223372036854775807) :
 Cal Tryz.prog (Qk1[k]'hk).2 [.pointer (some ⟨p,0,none⟩),.string person,.int .i64 now,.int .i64 limit] w fun r w'=>Qdb c z person now limit k w r w':=by
 rcases k with _ | _ | _ | _ | _ | _ | k
 · exact Qgz h hok person now limit hnow hl
 · exact Qkj h hok person now limit hnow hl
 · exact absurd rfl hk2
 · exact Qfg h hok person now limit hl
 · exact Qef h hok person now limit hnow hl
 · exact Qjn h hok person now limit hnow hl
 · omega
theorem Qoh {St:(Nat→Prop)→World→Prop} {w:World} {T:Nat→Prop} {n0 p:Nat} {c:Cfg} {z:List Ev} (hP:PSt St n0 p c z) (h:St T w) (hok:Qhm c z) (k:Nat) (hk:k<6) (person:ByteArray) (now limit:Int) (hnow:0≤now∧now≤1099511627776) (hl:0≤limit∧limit≤9223372036854775807) :
 Cal Tryz.prog (Qk1[k]'hk).2 [.pointer (some ⟨p,0,none⟩),.string person,.int .i64 now,.int .i64 limit] w fun r w'=>Qhp St ((Xe c z person now k).take limit.toNat) T w r w':=by
 by_cases hk2:k=2
 · subst hk2
   exact Qkk hP h hok person now limit hl
 · obtain⟨v,T0,hQ⟩:=hP.wq h
   exact(Qdz hQ hok k hk hk2 person now limit hnow hl).mono fun r w' hr=>hr.p hP h
theorem one_any {w:World} (p:Nat) (r:Int) (person:ByteArray) (now limit:Int) (hl:limit≤9223372036854775807) {R:Value→World→Prop}
 (hno:¬ (0≤r∧r≤5∧0≤now∧now≤1099511627776)→∀ w1,Ext w w1→R (.slice none 0 0) w1)
 (hyes:∀ (k:Nat) (hk:k<6),r=k→0≤now∧now≤1099511627776→∀ w1,Ext w w1→Cal Tryz.prog (Qk1[k]'hk).2 [.pointer (some ⟨p,0,none⟩),.string person,.int .i64 now,.int .i64 (max limit 0)] w1 R) :
 Cal Tryz.prog 12 [.pointer (some ⟨p,0,none⟩),.int .i64 r,.string person,.int .i64 now,.int .i64 limit] w R:=by
 refine Fi Tryz.func12 rfl _ rfl rfl (Hh ?_);refine(Qd4 w).mono ?_;rintro _ w1 ⟨b,rfl,hs,hx1⟩;conv=>whnf
 constructor
 · intro hq
   have hq:¬ (0≤r∧r≤5∧0≤now∧now≤1099511627776):=by simp at hq;omega
   conv=>whnf
   exact hno hq w1 hx1
 · intro hq
   have hq:0≤r∧r≤5∧0≤now∧now≤1099511627776:=by simp at hq;omega
   obtain⟨k,rfl⟩:∃ k:Nat,r=k:=⟨r.toNat,by omega⟩;have hk:k<6:=by omega
   obtain⟨a,hA,hc⟩:=hs.get (show k<Qk1.length from hk);have hcal:=hyes k hk rfl ⟨hq.2.2.1,hq.2.2.2⟩ w1 hx1
   conv=>whnf
   refine⟨a,⟨hA,by omega,by omega⟩,Hh ?_⟩;generalize hf:Qk1[k]=wf at hc hcal;refine⟨.func (.func wf.2) #[] #[],cells_at hc (k:=1) rfl,Hh ?_⟩;refine hcal.mono ?_;rintro v w2 hv
   conv=>whnf
   exact hv
theorem Qfz {c:Cfg} {z:List Ev} {person:ByteArray} {now limit:Int} {k:Nat} (hk:k<6) (hnow:0≤now∧now≤1099511627776):Qc c z person now k limit=(Xe c z person now k).take (max limit 0).toNat:=by
 unfold Qc;rw[if_pos ⟨by omega,by omega,hnow.1,hnow.2⟩,Qgu,Int.toNat_natCast]
theorem Qb2 {c:Cfg} {z:List Ev} {person:ByteArray} {now r limit:Int} (h:¬ (0≤r∧r≤5∧0≤now∧now≤1099511627776)):Qc c z person now r limit = []:=by
 unfold Qc;rw[if_neg h]
theorem X5 {St:(Nat→Prop)→World→Prop} {w:World} {T:Nat→Prop} {n0 p:Nat} {c:Cfg} {z:List Ev} (hP:PSt St n0 p c z) (h:St T w) (hok:Qhm c z) (r:Int) (person:ByteArray) (now limit:Int) (hl:limit≤9223372036854775807) :
 Cal Tryz.prog 12 [.pointer (some ⟨p,0,none⟩),.int .i64 r,.string person,.int .i64 now,.int .i64 limit] w fun v w'=>Qhp St (Qc c z person now r limit) T w v w':=by
 refine one_any p r person now limit hl (fun hq w1 hx1 => ?_) (fun k hk hr hnow w1 hx1 => ?_)
 · rw[Qb2 hq]
   exact⟨none,0,T,rfl,Own.nil,fun a ha=>(by cases ha),hP.ext h hx1,fun k hk => .inl hk,Mod.of_ext hx1⟩
 · subst hr
   rw[Qfz hk hnow];refine(Qoh hP (hP.ext h hx1) hok k hk person now (max limit 0) hnow ⟨by omega,by omega⟩).mono ?_;rintro v w2 ⟨A,cp,T',h1,h2,h3,h4,h5,h6⟩
   exact⟨A,cp,T',h1,h2.base hx1.size,h3,h4,fun k hk=>(h5 k hk).imp id fun h=>Nat.le_trans hx1.size h,(Mod.of_ext hx1).trans h6⟩
theorem Qmg {w:World} {T:Nat→Prop} {p:Nat} {c:Cfg} {z:List Ev} {v:Value} (h:WQ w T p c z v) (hok:Qhm c z) (k:Nat) (hk:k<6) (hk2:k≠2) (person:ByteArray) (now limit:Int) (hnow:0≤now∧now≤1099511627776) (hl:limit≤9223372036854775807) :
 Cal Tryz.prog 12 [.pointer (some ⟨p,0,none⟩),.int .i64 k,.string person,.int .i64 now,.int .i64 limit] w fun r w'=>∃ A cp,r = .slice A (Qc c z person now k limit).length cp∧SlT w' A (Qc c z person now k limit)∧Ext w w':=by
 refine one_any p k person now limit hl (fun hq w1 hx1 => ?_) (fun j hj hr _ w1 hx1 => ?_)
 · exact absurd ⟨by omega,by omega,hnow.1,hnow.2⟩ hq
 · obtain rfl:k=j:=by omega
   rw[Qfz hk hnow];refine(Qdz (h.ext hx1) hok k hk hk2 person now (max limit 0) hnow ⟨by omega,by omega⟩).mono ?_;rintro v w2 ⟨A,cp,h1,h2,h3⟩
   exact⟨A,cp,h1,h2.sl strE_len,hx1.trans h3⟩
theorem Qg4 {c:Cfg} {z:List Ev} (hm:∀ e∈z,mayB e=true) {person:ByteArray} {now:Int} {r:Nat} {x:ByteArray} (h:x∈Xe c z person now r):isName x=true∧x∈z.map (·.item):=by
 have hwp:∀ e,e∈z.filter wpB→isName e.item=true∧e.item∈z.map (·.item):=fun e he=>⟨(Qf4 hm he).2,List.mem_map.2 ⟨_,(List.mem_filter.1 he).1,rfl⟩⟩
 have hnw:∀ q:It→Bool,x∈(Qer z now q).map (·.1)→isName x=true∧x∈z.map (·.item):=fun q hq=>by
  obtain⟨e,he,rfl⟩:=List.mem_map.1 (Qce (Qch hq))
  exact⟨Qkw hm he,List.mem_map.2 ⟨e,(List.mem_filter.1 he).1,rfl⟩⟩
 unfold Xe at h
 split at h
 · obtain⟨y,hy,rfl⟩:=List.mem_map.1 h
   have hy2:=(Qs _).mem_iff.1 hy;rw[(Qw c.width z).1] at hy2;unfold X9 at hy2;obtain⟨k,hk,rfl⟩:=List.mem_map.1 (List.mem_filter.1 hy2).1;obtain⟨d,hd,rfl⟩:=List.mem_map.1 hk;obtain⟨e,he,hi⟩:=(Qlr _).2 d hd;have:=hwp e he;rw[hi] at this
   exact this
 split at h
 · obtain⟨y,hy,rfl⟩:=List.mem_map.1 h
   have h1:=Qan.1 ((Xv _ _).mem_iff.1 hy);unfold Qqj Xq at h1;obtain⟨k,hk,hke⟩:=List.mem_map.1 (List.mem_filter.1 h1).1;have hkk:y.1.1=k:=by rw[← hke];rfl
   rw[hkk];rw[(Qw c.width z).2.1] at hk;unfold Xy at hk;rw[Qg] at hk;obtain⟨d,hd,rfl⟩:=List.mem_map.1 hk;obtain⟨e,he,hi⟩:=(Qoc c.width _).2 d (List.mem_filter.1 hd).1;have:=hwp e he;rw[hi] at this
   exact this
 split at h
 · obtain⟨y,hy,rfl⟩:=List.mem_map.1 h
   have h1:=Qan.1 ((Xv _ _).mem_iff.1 hy);refine((Qbq (Q:=fun q:Nr=>isName q.1=true∧q.1∈z.map (·.item)) _ [] (by simp) (by simp) fun q hq => ?_).2 _ h1).2;obtain⟨a,_,hq⟩:=List.mem_flatMap.1 hq;unfold Qar at hq;obtain⟨b,hb,rfl⟩:=List.mem_map.1 hq;have hb:=(List.mem_filter.1 hb).1;unfold X0 at hb;obtain⟨e,he,hi⟩:=List.mem_map.1 (Qff c z (List.mem_filter.1 (Qg.1 hb)).1);have:=hwp e he;rw[hi] at this
   exact this
 split at h
 · exact hnw _ h
 split at h
 · exact hnw _ h
 split at h
 · obtain⟨y,hy,rfl⟩:=List.mem_map.1 h
   have h2:=(List.mem_filter.1 ((Qs _).mem_iff.1 hy)).1;obtain⟨e,he,hi⟩:=List.mem_map.1 (Qbx h2).1;have h3:=List.mem_filter.1 he
   have h4:e∈z:=by
    have h1:=h3.1;unfold histE hist peopleE at h1
    exact(List.mem_filter.1 (List.mem_filter.1 h1).1).1
   rw[← hi]
   exact⟨(worth_names (hm e h4) (by simpa using h3.2)).2,List.mem_map.2 ⟨e,h4,rfl⟩⟩
 · cases h
theorem Qoe {c:Cfg} {z:List Ev} (hm:∀ e∈z,mayB e=true) (hS:(Qax c z).length<1000) (person:ByteArray) (now:Int) (r:Nat):(Xe c z person now r).length≤z.length:=by
 have h:=sub_perm (Qew hS person now r) fun x hx=>(Qg4 hm hx).2
 rw[List.length_map] at h
 exact h
theorem Xf {c:Cfg} {z:List Ev} (hm:∀ e∈z,mayB e=true) (hS:(Qax c z).length<1000) (person:ByteArray) (now r limit:Int):(Qc c z person now r limit).length≤z.length:=by
 unfold Qc
 split
 · have:=Qoe hm hS person now r.toNat
   rw[List.length_take];omega
 · simp
end Go.Proofs.YtagijlhciclafaaGreatDoor
namespace Go.Proofs.YtagijlhciclafaaGreatDoor
open Go.Se Go.RowKit Go.Sort Go.Shelf
theorem Qj7 (mb:Option Nat) (w:World):Cal Tryz.prog 45 [.map mb] w fun r w'=>r = .func (.func 89) #[] #[.pointer (some ⟨w.heap.size,0,none⟩)]∧w'.cell? ⟨w.heap.size,0,none⟩=some (.map mb)∧Ext w w' :=
 keysT_gen Tryz.keys45 ⟨_,Tryz.func45,rfl,rfl⟩ mb w
theorem Qhd {w:World} {Bm b:Nat} {L:List (ByteArray×Value)} (hc:w.cell? ⟨Bm,0,none⟩=some (.map (some b))) (hm:MapAt w b Value.string L) (hk:∀ x∈L,x.1.size≤1000000) (hl:L.length≤1000000000) :
 Cal Tryz.prog 44 [.func (.func 89) #[] #[.pointer (some ⟨Bm,0,none⟩)]] w fun r w'=>∃ A c,r = .slice A (sortT (L.map (·.1))).length c∧Own strE 1 9 w.heap.size w' A c (sortT (L.map (·.1)))∧Ext w w':=by
 obtain⟨N,Q,h1,h2,h3⟩:=keysT_seq { Tryz.keys45 with } hc hm hk hl
 exact sortedT_core Tryz.sorted44 sortsT (enters_of Tryz.func88 (by kernel_rfl) rfl) (enters_of Tryz.func89 (by kernel_rfl) rfl) ⟨_,Tryz.func44,rfl,rfl⟩ h2 h1 h3
def rdStep (r:Int) (f:ByteArray→List Int) (x:ByteArray):ByteArray→List Int:=updR f x (f x ++ [r])
theorem Qmn (r:Int):∀ (l:List ByteArray) (f:ByteArray→List Int),l.Nodup→∀ x,(l.foldl (rdStep r) f) x=if x∈l then f x ++ [r] else f x
 | [],f,_,x=>by simp
 | a :: l,f,hn,x=>by
   rw[List.nodup_cons] at hn;rw[List.foldl_cons,Qmn r l _ hn.2 x];unfold rdStep updR
   by_cases h:x=a
   · subst h
     rw[if_neg hn.1,if_pos rfl,if_pos (by simp)]
   · rw[if_neg h]
     by_cases h2:x∈l
     · rw[if_pos h2,if_pos (by simp[h2])]
     · rw[if_neg h2,if_neg (by simp[h,h2])]
def Qb9 (c:Cfg) (z:List Ev) (person:ByteArray) (now limit:Int) (k:Nat) (x:ByteArray):List Int:=((List.range k).filter fun r=>decide (x∈Qc c z person now (r:Nat) limit)).map fun r=>((r:Nat):Int)
theorem Qg0 (c:Cfg) (z:List Ev) (person:ByteArray) (now limit:Int) (k:Nat) (x:ByteArray):Qb9 c z person now limit (k+1) x=if x∈Qc c z person now (k:Nat) limit then Qb9 c z person now limit k x ++ [(k:Int)] else Qb9 c z person now limit k x:=by
 unfold Qb9;rw[List.range_succ,List.filter_append,List.map_append]
 by_cases h:x∈Qc c z person now (k:Nat) limit
 · rw[if_pos h];simp[h]
 · rw[if_neg h];simp[h]
theorem Qfx (c:Cfg) (z:List Ev) (person:ByteArray) (now limit:Int) (k:Nat) (x:ByteArray):(Qb9 c z person now limit k x).length≤k:=by
 unfold Qb9;rw[List.length_map];refine Nat.le_trans (List.length_filter_le _ _) ?_
 simp
def Xc (c:Cfg) (z:List Ev) (person:ByteArray) (now limit:Int):List ByteArray:=Q5 ((List.range 6).flatMap fun r=>Qc c z person now (r:Nat) limit)
theorem Qi2 {c:Cfg} {z:List Ev} {person:ByteArray} {now limit:Int} {x:ByteArray}:x∈Xc c z person now limit↔Qb9 c z person now limit 6 x ≠ []:=by
 unfold Xc Qb9;rw[Qg,List.mem_flatMap];constructor
 · rintro ⟨r,hr,hx⟩ h
   have:(r:Int)∈(((List.range 6).filter fun r=>decide (x∈Qc c z person now (r:Nat) limit)).map fun r=>((r:Nat):Int)):=List.mem_map.2 ⟨r,List.mem_filter.2 ⟨hr,by simpa using hx⟩,rfl⟩;rw[h] at this
   cases this
 · intro h
   obtain⟨y,hy⟩:=List.exists_mem_of_ne_nil _ h;obtain⟨r,hr,_⟩:=List.mem_map.1 hy;obtain⟨h1,h2⟩:=List.mem_filter.1 hr
   exact⟨r,h1,by simpa using h2⟩
theorem Qde {c:Cfg} {z:List Ev} (hm:∀ e∈z,mayB e=true) {person:ByteArray} {now limit:Int} {x:ByteArray} (h:x∈Xc c z person now limit):isName x=true∧x∈z.map (·.item):=by
 unfold Xc at h;obtain⟨r,_,hx⟩:=List.mem_flatMap.1 (Qg.1 h)
 exact Qg4 hm (Qau hx)
theorem Qc6 {c:Cfg} {z:List Ev} (hm:∀ e∈z,mayB e=true) (person:ByteArray) (now limit:Int):(Xc c z person now limit).length≤z.length:=by
 have h:=sub_perm (V:=Xc c z person now limit) (Q7 _) fun x hx=>(Qde hm hx).2
 rw[List.length_map] at h
 exact h
theorem Qnc:Tryz.prog.underlying 102=some (.map 9 38):=by kernel_rfl
theorem Qpx:Qf7 Tryz.prog 38 31 intC 1 8:=⟨by kernel_rfl,⟨_,ty31_ok,rfl,rfl⟩,by31,by decide,by decide,intC_len,fun x=>by simp[intC,Value.oneCell']⟩
abbrev Cd:=ByteArray×SV
def cdC (x:Cd):List Value := [.string x.1,.slice x.2.1 x.2.2.1 x.2.2.2]
theorem Qlg (x:Cd):(cdC x).length=2:=rfl
theorem Qoi:Qf7 Tryz.prog 36 40 cdC 2 40:=⟨by kernel_rfl,⟨_,ty40_ok,rfl,rfl⟩,by40,by decide,by decide,Qlg,fun x=>by simp[cdC,Value.oneCell']⟩
structure Qqk (c:Cfg) (z:List Ev) (person:ByteArray) (now limit:Int) (n:Nat) (T':Nat→Prop) (w':World) (A:Option Addr) (H:List Cd):Prop where
 sl:Sl cdC 2 w' A H
 keys:H.map (·.1)=Xc c z person now limit
 row:∀ d∈H,d.2.2.1=(Qb9 c z person now limit 6 d.1).length∧SlI w' d.2.1 (Qb9 c z person now limit 6 d.1)∧∀ a,d.2.1=some a→n≤a.block∧¬ T' a.block
 new:∀ a,A=some a→n≤a.block∧¬ T' a.block
set_option maxHeartbeats 8000000 in
theorem Qaa {St:(Nat→Prop)→World→Prop} {w:World} {T:Nat→Prop} {n0 p:Nat} {c:Cfg} {z:List Ev} (hP:PSt St n0 p c z) (h:St T w) (hok:Qhm c z) (hS:(Qax c z).length<1000) (person:ByteArray) (now limit:Int) (hl:limit≤9223372036854775807) :
 Cal Tryz.prog 16 [.pointer (some ⟨p,0,none⟩),.string person,.int .i64 now,.int .i64 limit] w fun r w'=>∃ A cp H T',r = .slice A H.length cp∧Qqk c z person now limit w.heap.size T' w' A H∧St T' w'∧(∀ k,T' k→T k∨w.heap.size≤k)∧Mod T w w':=by
 have hlow:=hP.low h;have hTl:=hP.lt h
 have hm:∀ e∈z,mayB e=true:=by
  obtain⟨v,T0,hQ⟩:=hP.wq h
  exact hQ.may
 have hsz:∀ x∈Xc c z person now limit,x.size≤1000000:=fun x hx=>by
  have:=name_le (Qde hm hx).1;omega
 have hcl:=Qc6 (c:=c) hm person now limit;have hzl:=hok.len;replace hcl:(Xc c z person now limit).length<1000000:=by omega
 refine Fi Tryz.func16 rfl _ rfl rfl (Hh ?_);intro b1 w1 hn1;have e1:=hn1.block;have hR1:RowsL intC 1 31 w1 (fun k=>k=b1) b1 (fun _=>([]:List Int)) []:=RowsL.new hn1 rfl;have hx1:=hn1.ext;have z1:=hn1.size;clear hn1;refine Gg ?_;refine(Qd4 w1).mono ?_;rintro _ w2 ⟨bw,rfl,_,hx2⟩;have z2:=hx2.size;replace hR1:RowsL intC 1 31 w2 (fun k=>k=b1) b1 (fun _=>([]:List Int)) []:=hR1.keep fun k hk hs=>⟨hx2.block k hk,hs⟩
 have h2:=hP.ext h (hx1.trans hx2);have hM2:Mod T w w2:=Mod.of_ext (hx1.trans hx2);refine Gg ?_
 refine loop_rule Tt_ok (fun(q:Nat×(Nat→Prop)×(Nat→Prop)×(ByteArray→List Int)×List (ByteArray×(Option Addr×Nat))) w'=>q.1≤6∧(∀ x,q.2.2.2.1 x=Qb9 c z person now limit q.1 x)∧RowsL intC 1 31 w' q.2.2.1 b1 q.2.2.2.1 q.2.2.2.2∧(∀ k,q.2.2.1 k→w.heap.size≤k∧k<w'.heap.size∧¬ q.2.1 k)∧St q.2.1 w'∧(∀ k,q.2.1 k→T k∨w.heap.size≤k)∧Mod T w w')
  (fun | (k,_) => [(0,.pointer (some ⟨p,0,none⟩)),(1,.string person),(2,.int .i64 now),(3,.int .i64 limit),(9,.map (some b1)),(18,.int .i64 6),(19,.int .i64 (k:Nat))]) (fun q=>6-q.1) (0,T,(fun k=>k=b1),(fun _ => []),[]) ⟨Nat.zero_le _,fun x=>rfl,hR1,fun k hk=>by subst hk;exact⟨by omega,by omega,fun hT=>by have:=hTl _ hT;omega⟩,h2,fun k hk => .inl hk,hM2⟩ Rr ?_
 clear hR1 h2 hM2 hx1 hx2;rintro ⟨k,T1,S1,f,L⟩ wa ⟨hk,hf,hRa,hSa,hWa,hTa,hMa⟩;simp only at hk hf hRa hSa hWa hTa;have za:=hMa.size;refine Gg ?_;constructor
 · intro hlt
   have hlt:k<6:=by
    have:(k:Int)<6:=by simpa using hlt
    omega
   refine Gg ?_;refine(X5 hP hWa hok k person now limit hl).mono ?_;rintro _ wb ⟨A,cp,T2,rfl,hown,hAT,hWb,hTb,hMb⟩;have zb:=hMb.size;have hT2l:=hP.lt hWb;have hRb:RowsL intC 1 31 wb S1 b1 f L:=hRa.keep fun i hi hs=>⟨hMb.block i hi (hSa i hs).2.2,hs⟩
   have hS2:∀ i,S1 i→¬ T2 i:=fun i hs ht=>by
    rcases hTb i ht with q | q
    · exact(hSa i hs).2.2 q
    · have:=(hSa i hs).2.1;omega
   have hTc:∀ i,T2 i→T i∨w.heap.size≤i:=fun i ht=>by
    rcases hTb i ht with q | q
    · exact hTa i q
    · exact .inr (by omega)
   have hMc:Mod T w wb:=mod_trans_grow hMa (hMb.mono fun i _ hi=>hTa i hi);have hnd:=Qbl hS person now (k:Nat) limit;have hsu:=Qg0 c z person now limit k;have hfl:∀ x,(f x).length≤6:=fun x=>by rw[hf];have:=Qfx c z person now limit k x;omega
   have hsA:=hown.sl strE_len;have hAb:∀ a,A=some a→¬ S1 a.block:=fun a ha hs=>by have:=(hSa _ hs).2.1;have:=(hown.block ha).1;omega
   have hQl:(Qc c z person now (k:Nat) limit).length<1000000:=by have:=Xf hm hS person now (k:Nat) limit;omega
   generalize Qc c z person now (k:Nat) limit=Q at hown hnd hsu hsA hQl ⊢;clear hRa hWa hTa hTb hMa hMb hown;refine Gg ?_
   refine loop_rule Tt_ok (fun(q:Nat×(Nat→Prop)×(ByteArray→List Int)×List (ByteArray×(Option Addr×Nat))) w'=>q.1≤Q.length∧q.2.2.1=(Q.take q.1).foldl (rdStep k) f∧RowsL intC 1 31 w' q.2.1 b1 q.2.2.1 q.2.2.2∧(∀ i,q.2.1 i→w.heap.size≤i∧i<w'.heap.size∧¬ T2 i)∧(∀ i,q.2.1 i→i<wb.heap.size→S1 i)∧(∀ i,i<wb.heap.size→¬ S1 i→w'.heap[i]? = wb.heap[i]?)∧Mod (fun i=>w.heap.size≤i) wb w')
    (fun | (j,_) => [(0,.pointer (some ⟨p,0,none⟩)),(1,.string person),(2,.int .i64 now),(3,.int .i64 limit),(9,.map (some b1)),(10,.int .i64 (k:Nat)),(18,.int .i64 6),(19,.int .i64 (k:Nat)),(27,.slice A Q.length cp),(28,.int .i64 Q.length),(29,.int .i64 (j:Nat))]) (fun q=>Q.length-q.1) (0,S1,f,L) ⟨Nat.zero_le _,rfl,hRb,fun i hi=>⟨(hSa i hi).1,by have:=(hSa i hi).2.1;omega,hS2 i hi⟩,fun i hi _=>hi,fun i _ _=>rfl,Mod.refl _ _⟩ Rr ?_
   clear hRb;rintro ⟨j,S,g,L1⟩ wc ⟨hj,hg,hRc,hSc,hSo,hkc,hMd⟩;simp only at hj hg hRc hSc hSo;have zc:=hMd.size
   have hgl:∀ x,(g x).length≤7:=fun x=>by
    rw[hg,Qmn _ _ _ (hnd.sublist (List.take_sublist _ _))];have:=hfl x
    split
    · rw[List.length_append];simp;omega
    · omega
   refine Gg ?_;constructor
   · intro hlt2
     have hlt2:j<Q.length:=by simpa using hlt2
     have hsA':SlT wc A Q:=Qv.stay hsA fun a ha hlt3=>hkc _ hlt3 (hAb a ha)
     obtain⟨ax,hAx,hcx⟩:=hsA'.get hlt2;have htk:(Q.take (j+1)).foldl (rdStep k) f=rdStep k g Q[j]:=by rw[List.take_succ_eq_append_getElem hlt2,List.foldl_append,← hg];rfl
     generalize Q[j]=x at hcx htk;refine Gg ?_;refine⟨ax,⟨hAx,by omega,by omega⟩,Gg ?_⟩;refine⟨.string x,cells_head hcx,Gg ?_⟩;refine⟨_,hRc.look Qnc undStr (e:=ty38) ty38_ok rfl x kept_same,Gg ?_⟩;intro be we hne;refine Gg ?_;have hro:=hRc.own x;have hgx:=hgl x;have hbm:=hRc.map.lt;have ze:=hne.ext.size;have ze2:=hne.size;refine Qa Qpx (l:=g x) (news := [(k:Int)]) rfl (hro.1.ext hne.ext) rfl (Qpx.new1 (x:=(k:Int)) hne) (by simp;omega) (Nat.zero_le _) fun Af cf wf hownf hgf hAf => ?_
     have hrb:∀ i,(rowAt L1 x).1.map (·.block)=some i→S i∧i≠b1:=fun i hi=>by
      cases hq:(rowAt L1 x).1 with
      | none=>rw[hq] at hi;simp at hi
      | some a=>rw[hq] at hi;simp at hi;subst hi;exact hro.2 a hq
     have hmf:MapAt wf b1 Value.string (toV g L1):=(hRc.map.ext hne.ext).keep (hgf.block b1 (hRc.map.ext hne.ext).lt fun e=>(hrb b1 e.symm).2 rfl);have zf:=hgf.size;generalize hrow:g x ++ [(k:Int)]=row at hownf ⊢;have hrne:row ≠ []:=by rw[← hrow];simp
     refine Gg ?_;refine map_update Qnc (key_string undStr) hmf x _ fun wg hmg hog => ?_
     have hpush:=hRc.push (k:=x) (r:=row) hrne hne.ext hgf hAf hownf hmg hog;have zg:=hog.size;have hupd:updR g x row=(Q.take (j+1)).foldl (rdStep k) f:=by rw[htk,← hrow];rfl
     rw[hupd] at hpush;have hS1b:S b1:=hRc.mine
     have hcg:∀ i,i<wc.heap.size→¬ S i→wg.heap[i]? = wc.heap[i]? := fun i hi hs=>by
      rw[hog.block i (fun e=>hs (by rw[e];exact hS1b)),hgf.block i (by omega) (fun e=>hs (hrb i e.symm).1)]
      exact hne.ext.block i hi
     refine Gg ?_;refine⟨_,wrap_succ (by omega),Gg ?_⟩;refine⟨(j+1,(fun i=>Grow S wc i∧i<wg.heap.size),(Q.take (j+1)).foldl (rdStep k) f,aset L1 x (Af,cf)),by simp only;omega,⟨by simp only;omega,rfl,hpush.keep fun i hi hs=>⟨rfl,hs,hi⟩,fun i hi => ?_,fun i hi hlt4 => ?_,fun i hi hs => ?_,?_⟩,Rr⟩
     · obtain⟨hi1,hi2⟩:=hi
       rcases hi1 with hi1 | hi1
       · exact⟨(hSc i hi1).1,hi2,(hSc i hi1).2.2⟩
       · exact⟨by omega,hi2,fun ht=>by have:=hT2l i ht;omega⟩
     · obtain⟨hi1,_⟩:=hi
       rcases hi1 with hi1 | hi1
       · exact hSo i hi1 hlt4
       · omega
     · rw[hcg i (by omega) (fun h=>hs (hSo i h hi))]
       exact hkc i hi hs
     · refine hMd.trans ⟨by rw[hog.os,hgf.os,hne.ext.os],by rw[hog.tape,hgf.tape,hne.ext.tape],by rw[hog.output,hgf.output,hne.ext.output],by omega,fun i hi hs=>hcg i hi fun h=>hs (hSc i h).1⟩
   · intro hge2
     have hge2:Q.length≤j:=by simpa using hge2
     rw[List.take_of_length_le hge2] at hg;have hfin:∀ x,g x=Qb9 c z person now limit (k+1) x:=fun x=>by rw[hg,Qmn _ _ _ hnd,hsu,hf]
     have hWc:St T2 wc:=hP.keep hWb fun i hi hc=>hkc i hi fun hs=>by
      rcases hc with q | q
      · exact hS2 i hs q
      · have:=(hSa i hs).1;omega
     refine Gg ?_;refine⟨_,wrap_succ (by omega),Gg ?_⟩;refine⟨(k+1,T2,S,g,L1),by simp only;omega,⟨by simp only;omega,hfin,hRc,hSc,hWc,hTc,?_⟩,Rr⟩
     exact mod_trans_grow hMc (hMd.mono fun i _ hi => .inr hi)
 intro hge
 have hge:k=6:=by
  have:¬ (k:Int)<6:=by simpa using hge
  omega
 subst hge;have hvk:(toV f L).map (·.1)=L.map (·.1):=by unfold toV;rw[List.map_map];rfl
 have hkn:=Qi hRa.keys
 have hmem:∀ x,x∈L.map (·.1)↔x∈Xc c z person now limit:=fun x=>by
  rw[Qi2,← hf x];constructor
  · intro hx
    obtain⟨y,hy,rfl⟩:=List.mem_map.1 hx
    exact hRa.ne y hy
  · intro hx
    rw[Qby]
    cases hq:alook L x with
    | none=>exact absurd (hRa.all x hq) hx
    | some v=>rfl
 have hKe:sortT (L.map (·.1))=Xc c z person now limit:=by
  unfold Xc at hmem ⊢
  exact Qav hkn fun x=>(hmem x).trans Qg
 have hLl:L.length=(Xc c z person now limit).length:=by rw[← hKe,(sortT_perm _).length_eq,List.length_map]
 refine Gg ?_;refine(Qj7 (some b1) wa).mono ?_;rintro _ wb ⟨rfl,hcb,hxb⟩;refine Gg ?_;refine(Qhd hcb (hRa.map.ext hxb) (fun x hx => ?_) (by rw[show (toV f L).length=L.length by simp[toV]];omega)).mono ?_
 · refine hsz x.1 ((hmem x.1).1 ?_)
   rw[← hvk]
   exact List.mem_map.2 ⟨x,hx,rfl⟩
 rintro _ wc ⟨A,cp,rfl,hown,hxc⟩;rw[hvk,hKe] at hown ⊢;have hxac:=hxb.trans hxc;have hRc:RowsL intC 1 31 wc S1 b1 f L:=hRa.keep fun i hi hs=>⟨hxac.block i hi,hs⟩
 have hsA:=hown.sl strE_len;obtain⟨K,hK⟩:∃ K,K=Xc c z person now limit:=⟨_,rfl⟩;rw[← hK] at hsA hcl ⊢;have hWc:=hP.ext hWa hxac;have zc:=hxac.size;have hT1l:=hP.lt hWa;clear hown hmem hKe hvk hkn hcb hxb hxc hsz hge hk;refine Gg ?_
 refine loop_rule Tt_ok (fun(q:Nat×Option Addr×Nat×List Cd) w'=>q.1≤K.length∧Ext wc w'∧q.2.2.2=(K.take q.1).map (fun x=>((x,((rowAt L x).1,(f x).length,(rowAt L x).2)):Cd))∧Own cdC 2 40 wc.heap.size w' q.2.1 q.2.2.1 q.2.2.2)
  (fun | (j,B,d,H) => [(9,.map (some b1)),(13,.slice B H.length d),(45,.slice A K.length cp),(46,.int .i64 K.length),(47,.int .i64 (j:Nat))]) (fun q=>K.length-q.1) (0,none,0,[]) ⟨Nat.zero_le _,Ext.refl _,rfl,Own.nil⟩ Rr ?_
 rintro ⟨j,B,d,H⟩ wd ⟨hj,hxd,hH,hownH⟩;simp only at hj hH hownH;have hHl:H.length≤j:=by rw[hH,List.length_map,List.length_take];omega
 refine Gg ?_;constructor
 · intro hlt
   have hlt:j<K.length:=by simpa using hlt
   obtain⟨ax,hAx,hcx⟩:=(hsA.ext hxd).get hlt;have htk:(K.take (j+1)).map (fun x=>((x,((rowAt L x).1,(f x).length,(rowAt L x).2)):Cd))=H ++ [(K[j],((rowAt L K[j]).1,(f K[j]).length,(rowAt L K[j]).2))]:=by rw[List.take_succ_eq_append_getElem hlt,List.map_append,hH];rfl
   generalize K[j]=x at hcx htk;have hRd:RowsL intC 1 31 wd S1 b1 f L:=hRc.keep fun i hi hs=>⟨hxd.block i hi,hs⟩
   have hlk:=hRd.look Qnc undStr (e:=ty38) ty38_ok rfl x (cl := .same) kept_same;generalize hrx:(f x).length=n at hlk htk;generalize (rowAt L x).1=Ar at hlk htk;generalize (rowAt L x).2=cr at hlk htk;refine Gg ?_;refine⟨ax,⟨hAx,by omega,by omega⟩,Gg ?_⟩;refine⟨.string x,cells_head hcx,Gg ?_⟩;refine⟨_,hlk,Gg ?_⟩;intro be we hne;refine Gg ?_;refine Qa Qoi (l:=H) (news := [(x,(Ar,n,cr))]) rfl (hownH.ext hne.ext) rfl (Qoi.new1 (x:=(x,(Ar,n,cr))) hne) (by simp;omega) (hxd.trans hne.ext).size fun Af cf wf hownf hgf hAf => ?_
   have hxf:=ext_grown (hxd.trans hne.ext) hgf (Qd (hownH.ext hne.ext));generalize H ++ [(x,(Ar,n,cr))]=H2 at hownf htk ⊢;refine Gg ?_;refine⟨_,wrap_succ (by omega),Gg ?_⟩
   exact⟨(j+1,Af,cf,H2),by simp only;omega,⟨by simp only;omega,hxf,htk.symm,hownf⟩,Rr⟩
 intro hge;have hge:K.length≤j:=by simpa using hge
 rw[List.take_of_length_le hge] at hH;refine Gg ?_;refine⟨B,d,H,T1,rfl,⟨hownH.sl Qlg,?_,fun e he => ?_,fun a ha => ?_⟩,hP.ext hWc hxd,hTa,hMa.trans (Mod.of_ext (hxac.trans hxd))⟩
 · rw[hH,← hK,List.map_map]
   conv=>rhs;rw[← List.map_id K]
   rfl
 · rw[hH] at he
   obtain⟨x,_,rfl⟩:=List.mem_map.1 he;have ho:=hRc.own x;refine⟨by rw[← hf x],?_,fun a ha => ?_⟩
   · rw[← hf x]
     exact(ho.1.ext hxd).sl intC_len
   · obtain⟨q1,q2,q3⟩:=hSa _ (ho.2 a ha).1
     exact⟨q1,q3⟩
 · have h1:=(hownH.block ha).1
   exact⟨by omega,fun ht=>by have:=hT1l _ ht;omega⟩
end Go.Proofs.YtagijlhciclafaaGreatDoor
