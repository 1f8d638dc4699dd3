/- Several texts in one: Lib1, Lib2, Lib3, Lib4, SortP, Map1, Map2, Ev1, Ev2, Ev3, Ev4, Ev5, Ev6, Ord. -/
import Derived.Test.YtohkipkjleldpaaGreatDoorHTab
import Derived.Maps.AppendAt
import Derived.Deep.AppendLies
import Derived.Laws.CopyRow
import Derived.Maps.RangeRun
import Derived.WideKeyRuns
import Derived.Lib.ItoaNum
import Derived.Lib.ItoaLen
import Derived.Lib.ItoaMem
import Derived.Laws.IdiomStrings
import Derived.Lib.Bytealg
set_option linter.unusedVariables false
set_option linter.unusedSimpArgs false
namespace Go.Proofs.YtohkipkjleldpaaGreatDoor
open Go.Se
theorem int_eq {k:IntKind} {b c:Int} (h:b=c):some (Value.int k b)=some (Value.int k c):=by rw[h]
theorem wrap_i64 {z:Int} (h:-9223372036854775808≤z∧z≤9223372036854775807):z=IntKind.i64.wrap z:=by
 simp only[IntKind.wrap,IntKind.bits,IntKind.signed]
 simp
 split <;> omega
theorem Qaq {k n:Nat} (h:k+n≤9223372036854775807):((k+n:Nat):Int)=IntKind.i64.wrap ((k:Int)+(n:Int)):=by
 rw[← wrap_i64 ⟨by omega,by omega⟩];omega
theorem wrap_succ {k:Nat} (h:k<9223372036854775807):((k+1:Nat):Int)=IntKind.i64.wrap ((k:Int)+1):=by
 rw[← wrap_i64 ⟨by omega,by omega⟩];omega
theorem wrap_u64 {z:Int} (h:0≤z∧z≤18446744073709551615):z=IntKind.u64.wrap z:=by
 simp only[IntKind.wrap,IntKind.bits,IntKind.signed]
 simp
 omega
theorem Qv {w:World} {a:Addr} {v:Value} {l:List Value} (h:Xo w a (v :: l)):w.cell? a=some v:=by
 have:=h 0 v rfl
 simpa [Addr.add] using this
theorem cells_at {w:World} {a:Addr} {l:List Value} (h:Xo w a l) {k:Nat} {v:Value} (hk:nth l k=some v):w.cell? (a.add k)=some v:=h k v (by rw[← Qbm,hk])
def Sl {α:Type} (enc:α→List Value) (sz:Nat) (w:World) (A:Option Addr) (l:List α):Prop :=
 ∀ i x,l[i]? = some x→∃ a,A=some a∧Xo w (a.add (i*sz)) (enc x)
section
variable {α:Type} {enc:α→List Value} {sz:Nat} {w w':World} {A:Option Addr} {l:List α}
theorem Sl.nil:Sl enc sz w A []:=fun i x h=>by simp at h
theorem Sl.ext (h:Sl enc sz w A l) (hx:Ext w w'):Sl enc sz w' A l:=fun i x hi=>by
 obtain⟨a,ha,hc⟩:=h i x hi
 exact⟨a,ha,hx.cells hc⟩
theorem Sl.get (h:Sl enc sz w A l) {k:Nat} (hk:k<l.length):∃ a,A=some a∧Xo w (a.add (k*sz)) (enc l[k]) :=
 h k l[k] (List.getElem?_eq_getElem hk)
end
@[ext] structure Ev where
  src:ByteArray
  num:Int
  at_:Int
  kind:Int
  person:ByteArray
  item:ByteArray
  val:Int
  text:ByteArray
deriving DecidableEq
def evC (e:Ev):List Value := [.string e.src,.int .i64 e.num,.int .i64 e.at_,.int .i64 e.kind,.string e.person,.string e.item,.int .i64 e.val,.string e.text]
def evV (e:Ev):Value := .agg (evC e).toArray
abbrev SlE:=Sl evC 8
end Go.Proofs.YtohkipkjleldpaaGreatDoor
namespace Go.Proofs.YtohkipkjleldpaaGreatDoor
open Go.Se Go.RowKit
def Own {α:Type} (enc:α→List Value) (sz:Nat) (te:TypeId) (base:Nat) (w:World) (A:Option Addr) (c:Nat) (l:List α):Prop :=
 w.ownsRow base te sz (.slice A l.length c) l.length (l.flatMap enc)
section
variable {α:Type} {enc:α→List Value} {sz:Nat} {te:TypeId} {base:Nat} {w w':World} {A:Option Addr} {c:Nat} {l:List α}
theorem flat_get (hsz:∀ x,(enc x).length=sz):∀ (l:List α) (i j:Nat) (x:α),l[i]? = some x→j<sz→(l.flatMap enc)[i*sz+j]? = (enc x)[j]?
 | [],i,j,x,h,_=>by simp at h
 | y :: l,0,j,x,h,hj=>by
   obtain rfl:y=x:=by simpa using h
   rw[List.flatMap_cons,List.getElem?_append_left (by rw[hsz];omega)];simp
 | y :: l,i+1,j,x,h,hj=>by
   rw[List.flatMap_cons,List.getElem?_append_right (by rw[hsz,Nat.succ_mul];omega),hsz];rw[show (i+1)*sz+j-sz=i*sz+j by rw[Nat.succ_mul];omega]
   exact flat_get hsz l i j x (by simpa using h) hj
theorem Qfd (hsz:∀ x,(enc x).length=sz):∀ l:List α,(l.flatMap enc).length=l.length*sz
 | []=>by simp
 | y :: l=>by rw[List.flatMap_cons,List.length_append,hsz,Qfd hsz l,List.length_cons,Nat.succ_mul];omega
theorem Own.sl (hsz:∀ x,(enc x).length=sz) (h:Own enc sz te base w A c l):Sl enc sz w A l:=by
 intro i x hi;have hlt:i<l.length:=(List.getElem?_eq_some_iff.1 hi).1;rcases h.2 with⟨hv,h0⟩ | ⟨g,cap,cur,hv,hb,hg,h1,h2,h3,h4⟩
 · omega
 · have hA:A=some ⟨g,0,none⟩:=by injection hv
   refine⟨_,hA,fun j v hj => ?_⟩;have hjl:j<sz:=by rw[← hsz x];exact(List.getElem?_eq_some_iff.1 hj).1
   rw[Xe]
   exact h.cells (g:=g) (by rw[hA];rfl) _ _ (by rw[flat_get hsz l i j x hi hjl];exact hj)
theorem Own.le (h:Own enc sz te base w A c l):l.length≤c:=by
 rcases h.2 with⟨hv,h0⟩ | ⟨g,cap,cur,hv,hb,hg,h1,h2,h3,h4⟩
 · omega
 · injection hv with _ _ hc;omega
theorem Own.nil:Own enc sz te base w none 0 []:=⟨by simp,.inl ⟨rfl,rfl⟩⟩
theorem Own.made {w1:World} {b:Nat} (h:New w w1 b (.cells ([]:List Value).toArray te)) (hb:base≤w.heap.size):Own enc sz te base w1 (some ⟨b,0,none⟩) 0 []:=by
 refine⟨by simp,.inr ⟨b,0,#[],rfl,by rw[h.block];exact hb,h.at_,by simp,by simp[maxLen],by simp,by simp⟩⟩
theorem Own.block (h:Own enc sz te base w A c l) {a:Addr} (hA:A=some a):base≤a.block∧a.block<w.heap.size:=h.lt a.block (by rw[hA];rfl)
theorem Own.keep (h:Own enc sz te base w A c l) (hk:∀ a,A=some a→w'.heap[a.block]? = w.heap[a.block]?):Own enc sz te base w' A c l:=by
 refine⟨h.1,?_⟩;rcases h.2 with⟨hv,h0⟩ | ⟨g,cap,cur,hv,hb,hg,h1⟩
 · exact .inl ⟨hv,h0⟩
 · refine .inr ⟨g,cap,cur,hv,hb,?_,h1⟩
   have hA:A=some ⟨g,0,none⟩:=by injection hv
   rw[hk _ hA];exact hg
theorem Own.ext (h:Own enc sz te base w A c l) (hx:Ext w w'):Own enc sz te base w' A c l :=
 h.keep fun a ha=>hx.block _ (h.block ha).2
theorem Qr {w0:World} {row:Option Nat} (h:Ext w0 w) (hg:w.grownBy w' row) (hr:∀ k,row=some k→w0.heap.size≤k):Ext w0 w':=by
 unfold Ext at h ⊢
 exact h.grown hg h.size hr
theorem Qjk {P:Program} (t ty e:TypeId) (i:TypeInfo) (size:Nat) (ht:P.underlying t=some (.slice e)) (hi:P.info? e=some i)
 (v:Value) (n:Nat) (xs:List Value) (hown:w.ownsRow base e size v n xs) (c:Nat):(Builtin.append_ #[t,t] ty #[v,.slice none 0 c]).run P w = .ok v w:=by
 rcases hown.2 with⟨rfl,rfl⟩ | ⟨g,cap,cur,rfl,_,_,hnc,_⟩
 · simp[Builtin.append_,run_underlying ht,sizeOf,typeInfo,hi,Builtin.lenOf,Builtin.firstCells]
 · simp[Builtin.append_,run_underlying ht,sizeOf,typeInfo,hi,Builtin.lenOf,Builtin.firstCells,hnc,storeCells]
theorem Qdk {P:Program} {t ty:TypeId} {bytes:Nat} {ety:TyE} (htt:Q5 P te=some ety) (hsh:P.underlying t=some (.slice te)) (hby:(P.info? te).map (·.bytes)=some bytes) (hsize:ety.size=sz) (hzs:(Qg ety.zero).length=sz) (hsz0:0<sz)
 (hsz:∀ x,(enc x).length=sz) (hone:∀ x,∀ u∈enc x,u.oneCell'=true) {R:Value→World→Prop}
 (hown:Own enc sz te base w A c l) {B:Option Addr} {cB:Nat} {news:List α} (hs:Sl enc sz w B news)
 (hbytes:(l.length+news.length)*bytes≤140737488355328) (hlen:l.length+news.length≤9223372036854775807) (hbase:base≤w.heap.size)
 (h:∀ A' c' w',Own enc sz te base w' A' c' (l++news)→w.grownBy w' (A.map (·.block))→(A'=A∨A'.map (·.block)=A.map (·.block)∨A'.map (·.block)=some w.heap.size)→R (.slice A' (l++news).length c') w') :
 Qhr P (Builtin.append_ #[t,t] ty [.slice A l.length c,.slice B news.length cB].toArray) w R:=by
 obtain⟨i,_,hi,_,hz,_,hs1,_⟩:=Xd htt;have hby':i.bytes=bytes:=by rw[hi] at hby;simpa using hby
 have hzc:ety.zero.cells.size=sz:=by rw[← hzs,← Qab];simp
 have hob:(Value.slice A l.length c).ownBlock=A.map (·.block):=by cases A <;> rfl
 by_cases hn0:news = []
 · subst hn0
   cases B with
   | none =>
     refine⟨_,_,Qjk t ty te i sz hsh hi _ _ _ hown cB,?_⟩;have:=h A c w (by simpa using hown) (World.grownBy.refl w _) (.inl rfl)
     simpa using this
   | some b =>
     obtain⟨v',w',hr,h2,h3,h4,h5⟩:=run_append_own_at (P:=P) w base t ty te i ety.zero sz bytes hsh hi hz (hs1.trans hsize) hby' hzc hsz0 _ _ _ hown b 0 cB [] (by simp) (by simp) (by simp) (by unfold maxLen;simpa using hlen) (by simpa using hbytes) hbase
     have hv':∃ A' c',v' = .slice A' l.length c':=by
      rcases h2.2 with⟨hv,h0⟩ | ⟨g,cap,cur,hv,_⟩
      · exact⟨none,0,by rw[hv];congr 1;omega⟩
      · exact⟨_,_,by simpa using hv⟩
     obtain⟨A',c',rfl⟩:=hv';refine⟨_,_,hr,?_⟩;have hob':(Value.slice A' l.length c').ownBlock=A'.map (·.block):=by cases A' <;> rfl
     rw[hob,hob'] at h5;have:=h A' c' w' (by simpa [Own] using h2) (by rw[← hob];exact h3) (.inr h5)
     simpa using this
 · obtain⟨b,hB⟩:∃ b,B=some b:=by
    obtain⟨x,xs,rfl⟩:=List.exists_cons_of_ne_nil hn0;obtain⟨a,ha,_⟩:=hs 0 x rfl
    exact⟨a,ha⟩
   subst hB
   have hnews:∀ j u,(news.flatMap enc)[j]? = some u→w.cell? (b.add j)=some u:=by
    intro j u hj;have hjl:j<news.length*sz:=by rw[← Qfd hsz];exact(List.getElem?_eq_some_iff.1 hj).1
    have hdiv:j/sz<news.length:=by rw[Nat.div_lt_iff_lt_mul hsz0];exact hjl
    have hmod:j % sz<sz:=Nat.mod_lt _ hsz0;have hj':j=j/sz*sz+j % sz:=by rw[Nat.mul_comm];exact(Nat.div_add_mod j sz).symm
    obtain⟨a,ha,hc⟩:=hs (j/sz) news[j/sz] (List.getElem?_eq_getElem hdiv);obtain rfl:b=a:=by simpa using ha
    have e1:(news.flatMap enc)[j]? = (enc news[j/sz])[j % sz]? := by
     conv=>lhs;rw[hj']
     exact flat_get hsz news (j/sz) (j % sz) news[j/sz] (List.getElem?_eq_getElem hdiv) hmod
    rw[e1] at hj;have:=hc (j % sz) u hj;rw[Xe,← hj'] at this
    exact this
   obtain⟨v',w',hr,h2,h3,h4,h5⟩:=run_append_own_at (P:=P) w base t ty te i ety.zero sz bytes hsh hi hz (hs1.trans hsize) hby' hzc hsz0 _ _ _ hown b news.length cB (news.flatMap enc) (Qfd hsz _) hnews
    (fun u hu=>by obtain⟨x,_,hx⟩:=List.mem_flatMap.1 hu;exact hone x u hx) (by unfold maxLen;exact hlen) hbytes hbase
   have hv':∃ A' c',v' = .slice A' (l++news).length c':=by
    rcases h2.2 with⟨hv,h0⟩ | ⟨g,cap,cur,hv,_⟩
    · exact⟨none,0,by rw[hv];congr 1;simp;omega⟩
    · exact⟨_,_,by simpa using hv⟩
   obtain⟨A',c',rfl⟩:=hv';refine⟨_,_,hr,?_⟩;have hob':(Value.slice A' (l++news).length c').ownBlock=A'.map (·.block):=by cases A' <;> rfl
   rw[hob,hob'] at h5
   exact h A' c' w' (by simpa [Own] using h2) (by rw[← hob];exact h3) (.inr h5)
end
theorem Xz (e:Ev):(evC e).length=8:=rfl
theorem Qbo (e:Ev):∀ u∈evC e,u.oneCell'=true:=by simp[evC,Value.oneCell']
structure Only (w w':World) (b:Nat):Prop where
 os:w'.os=w.os
 tape:w'.tape=w.tape
 output:w'.output=w.output
 size:w'.heap.size=w.heap.size
 block:∀ i,i≠b→w'.heap[i]? = w.heap[i]?
theorem Only.mod {w w':World} {b:Nat} (h:Only w w' b):Mod (fun k=>k=b) w w':=⟨h.os,h.tape,h.output,by rw[h.size];exact Nat.le_refl _,fun i _ hn=>h.block i hn⟩
theorem Only.ext {w0 w w':World} {b:Nat} (h:Only w w' b) (hx:Ext w0 w) (hb:w0.heap.size≤b):Ext w0 w' :=
 ⟨h.os.trans hx.os,h.tape.trans hx.tape,h.output.trans hx.output,by rw[h.size];exact hx.size,fun i hi=>(h.block i (by omega)).trans (hx.block i hi)⟩
theorem Only.cells {w w':World} {b:Nat} (h:Only w w' b) {a:Addr} {cs:List Value} (hc:Xo w a cs) (hb:a.block≠b):Xo w' a cs:=fun j v hj=>by
 rw[World.cell?_of_block (w:=w) (h.block _ (by rw[add_block];exact hb))];exact hc j v hj
theorem Only.at_ {w w':World} {b:Nat} (h:Only w w' b) {g t:Nat} {l:List Value} (hc:At w g t l) (hb:g≠b):At w' g t l:=(h.block g hb).trans hc
theorem Only.sl {α:Type} {enc:α→List Value} {sz:Nat} {w w':World} {b:Nat} (h:Only w w' b) {A:Option Addr} {l:List α} (hs:Sl enc sz w A l) (hb:∀ a,A=some a→a.block≠b):Sl enc sz w' A l:=fun i x hi=>by
 obtain⟨a,ha,hc⟩:=hs i x hi
 exact⟨a,ha,h.cells hc (by rw[add_block];exact hb a ha)⟩
def spl (l:List Value) (off:Nat) (cs:List Value):List Value:=l.take off++cs++l.drop (off+cs.length)
theorem Ql8 (w:World) (b:Nat) (cs:Array Value):Only w (w.setRow b cs) b :=
 ⟨rfl,rfl,rfl,by simp[World.setRow],fun i hi=>by simp[World.setRow,Array.getElem?_modify,Ne.symm hi]⟩
theorem Qgx {P:Program} {T:Tab} (hT:Qa7 P T) {t:TypeId} {e:TyE} (ht:Qg9 T t=some e) {w:World} {R:Value→World→Prop} {b tb off:Nat} {l:List Value} {v:Value}
 (h:At w b tb l) (hn:(Qg v).length=e.size) (hle:off+e.size≤l.length) (hone:∀ u∈Qg v,u.oneCell'=true)
 (hk:∀ w',At w' b tb (spl l off (Qg v))→Only w w' b→R undef w'):Qub P (Instr.storeAt t (.pointer (some ⟨b,off,none⟩)) v) w R:=by
 have hst:=run_storeCells_at P b off tb (Qg v) 0 l.toArray w h (by simp;omega) hone;have hvs:v.cells.size=e.size:=by rw[← hn,← Qab];simp
 refine⟨w.setRow b (spl l off (Qg v)).toArray,?_,hk _ ?_ (Ql8 w b _)⟩
 · simp[Instr.storeAt,Instr.sureAddr,storeVar,Qiw (hT.get ht),hvs,Qab]
   simpa [spl] using hst
 · have:=setRow_heap w b l.toArray (spl l off (Qg v)).toArray tb (0,0) h
   simpa [At,spl] using this
theorem Qbd {α:Type} {enc:α→List Value} {sz:Nat} (hsz:∀ x,(enc x).length=sz) {w w1:World} {b t:Nat} {l:List α} (h:New w w1 b (.cells (l.flatMap enc).toArray t)):Sl enc sz w1 (some ⟨b,0,none⟩) l:=by
 intro i x hi;refine⟨_,rfl,fun j v hj => ?_⟩;have hjl:j<sz:=by rw[← hsz x];exact(List.getElem?_eq_some_iff.1 hj).1
 rw[Xe,Qz,h.At.cell,flat_get hsz l i j x hi hjl,hj]
section
variable {α:Type} {enc:α→List Value} {sz:Nat} {te:TypeId} {base:Nat} {w w':World} {A:Option Addr} {c:Nat} {l:List α}
theorem Qlo (hsz:∀ x,(enc x).length=sz):∀ (l:List α) (k:Nat),(l.take k).flatMap enc=(l.flatMap enc).take (k*sz)
 | [],k=>by simp
 | y :: l,0=>by simp
 | y :: l,k+1=>by
   rw[List.take_succ_cons,List.flatMap_cons,List.flatMap_cons,Qlo hsz l k,List.take_append,hsz,Nat.succ_mul];rw[List.take_of_length_le (l:=enc y) (by rw[hsz];omega),Nat.add_sub_cancel]
theorem Qln (hsz:∀ x,(enc x).length=sz):∀ (l:List α) (k:Nat),(l.drop k).flatMap enc=(l.flatMap enc).drop (k*sz)
 | [],k=>by simp
 | y :: l,0=>by simp
 | y :: l,k+1=>by
   rw[List.drop_succ_cons,List.flatMap_cons,Qln hsz l k,List.drop_append,hsz,Nat.succ_mul];rw[List.drop_eq_nil_of_le («as» := enc y) (by rw[hsz];omega),List.nil_append,Nat.add_sub_cancel]
theorem Qxh (hsz:∀ x,(enc x).length=sz) {k:Nat} (hk:k<l.length) (x:α):(l.set k x).flatMap enc=spl (l.flatMap enc) (k*sz) (enc x):=by
 rw[List.set_eq_take_append_cons_drop,if_pos hk,List.flatMap_append,List.flatMap_cons,Qlo hsz,Qln hsz];unfold spl;rw[hsz,Nat.succ_mul,List.append_assoc]
theorem Qtj {P:Program} {T:Tab} (hT:Qa7 P T) {t:TypeId} {e:TyE} (ht:Qg9 T t=some e) (he:e.size=sz) (hsz:∀ x,(enc x).length=sz) (hone:∀ x,∀ u∈enc x,u.oneCell'=true)
 {k:Nat} (hk:k<l.length) (x:α) {v:Value} (hv:Qg v=enc x) {a:Addr} (hown:Own enc sz te base w (some a) c l) {R:Value→World→Prop}
 (h:∀ w',Own enc sz te base w' (some a) c (l.set k x)→Only w w' a.block→R undef w'):Qub P (Instr.storeAt t (.pointer (some (a.add (k*sz)))) v) w R:=by
 have hl:=hown.1;rcases hown.2 with⟨hv',h0⟩ | ⟨g,cap,cur,hv',hb,hg,h1,h2,h3,h4⟩
 · omega
 · have hA:a=⟨g,0,none⟩:=by injection hv' with h _ _;injection h
   have hc:c=cap:=by injection hv'
   subst hA hc;rw[Qz]
   have hle:k*sz+sz≤l.length*sz:=by
    have:=Nat.mul_le_mul_right sz (show k+1≤l.length from hk);rw[Nat.succ_mul] at this;exact this
   have hle2:l.length*sz≤c*sz:=Nat.mul_le_mul_right sz h1;have hat:At w g te cur.toList:=by unfold At;rw[hg]
   refine Qgx hT ht hat (by rw[hv,hsz,he]) (by rw[he];simp;omega) (by rw[hv];exact hone x) fun w1 hw1 hon=>h w1 ?_ hon
   rw[hv] at hw1;refine⟨by rw[Qfd hsz],.inr ⟨g,c,_,by rw[List.length_set],hb,hw1,by rw[List.length_set];exact h1,h2,?_,?_⟩⟩
   · unfold spl
     simp[hsz]
     omega
   · rw[Qxh hsz hk,← h4,List.length_set]
     unfold spl;simp only[hsz,List.toList_toArray];rw[List.take_append,List.take_append,List.drop_take,List.take_take,List.take_take];rw[List.length_append,List.length_take,hsz];have e1:min (k*sz) cur.toList.length=k*sz:=by simp;omega
     rw[e1,Nat.min_eq_right (by omega),Nat.min_eq_left (by omega),List.take_of_length_le (l:=enc x) (by rw[hsz];omega)]
end
end Go.Proofs.YtohkipkjleldpaaGreatDoor
namespace Go.Proofs.YtohkipkjleldpaaGreatDoor
section
variable {α:Type} {lt:α→α→Bool}
structure Swo (lt:α→α→Bool):Prop where
 asymm:∀ x y,lt x y=true→lt y x=false
 trans:∀ x y z,lt y x=false→lt z y=false→lt z x=false
def Srt (lt:α→α→Bool) (l:List α):Prop:=l.Pairwise (fun x y=>lt y x=false)
theorem Swo.irrefl (h:Swo lt) (x:α):lt x x=false:=by
 cases hx:lt x x with
 | false=>rfl
 | true=>rw[h.asymm x x hx] at hx;cases hx
theorem Srt.nil:Srt lt ([]:List α):=List.Pairwise.nil
theorem Srt.one (x:α):Srt lt [x]:=by simp[Srt]
theorem Srt.append {x y:List α} (hx:Srt lt x) (hy:Srt lt y) (h:∀ u∈x,∀ v∈y,lt v u=false):Srt lt (x++y):=List.pairwise_append.2 ⟨hx,hy,h⟩
theorem Srt.left {x y:List α} (h:Srt lt (x++y)):Srt lt x:=(List.pairwise_append.1 h).1
theorem Srt.right {x y:List α} (h:Srt lt (x++y)):Srt lt y:=(List.pairwise_append.1 h).2.1
theorem Srt.across {x y:List α} (h:Srt lt (x++y)):∀ u∈x,∀ v∈y,lt v u=false:=(List.pairwise_append.1 h).2.2
theorem Qpr (O:Swo lt) {x y:List α} (hx:Srt lt x) (hy:Srt lt y) (h:∀ u v,x.getLast? = some u→y.head? = some v→lt v u=false):∀ u∈x,∀ v∈y,lt v u=false:=by
 intro u hu v hv
 obtain⟨x',l,rfl⟩:∃ x' l,x=x' ++ [l]:=by
  rcases List.eq_nil_or_concat x with rfl | ⟨x',l,hh⟩
  · simp at hu
  · exact⟨x',l,by simpa using hh⟩
 cases y with
 | nil=>simp at hv
 | cons f y' =>
   have h1:lt f l=false:=h l f (by simp) (by simp)
   have h2:lt l u=false:=by
    rcases List.mem_append.1 hu with hu | hu
    · exact hx.across u hu l (by simp)
    · simp at hu;subst hu;exact O.irrefl _
   have h3:lt v f=false:=by
    rcases List.mem_cons.1 hv with rfl | hv
    · exact O.irrefl _
    · exact(List.pairwise_cons.1 hy).1 v hv
   exact O.trans u l v h2 (O.trans l f v h1 h3)
theorem Qtg (O:Swo lt) {x1 x2 y1 y2 z1 z2:List α} (hx:Srt lt (x1++x2)) (hy:Srt lt (y1++y2))
 (h1:∀ u v,x1.getLast? = some u→y2.head? = some v→lt v u=false) (h2:∀ u v,y1.getLast? = some u→x2.head? = some v→lt v u=false)
 (p1:z1.Perm (x1++y1)) (p2:z2.Perm (x2++y2)) (s1:Srt lt z1) (s2:Srt lt z2):Srt lt (z1++z2)∧(z1++z2).Perm ((x1++x2)++(y1++y2)):=by
 constructor
 · refine s1.append s2 fun u hu v hv => ?_
   have hu:=p1.mem_iff.1 hu;have hv:=p2.mem_iff.1 hv;rcases List.mem_append.1 hu with hu | hu <;> rcases List.mem_append.1 hv with hv | hv
   · exact hx.across u hu v hv
   · exact Qpr O hx.left hy.right h1 u hu v hv
   · exact Qpr O hy.left hx.right h2 u hu v hv
   · exact hy.across u hu v hv
 · refine(p1.append p2).trans ?_
   rw[List.append_assoc,List.append_assoc];refine List.Perm.append_left x1 ?_;rw[← List.append_assoc,← List.append_assoc]
   exact List.Perm.append_right y2 List.perm_append_comm
theorem Qjq {l l':List α} (hp:l.Perm l') (hs:Srt lt l) (hs':Srt lt l') (ht:∀ x∈l,∀ y∈l,lt x y=false→lt y x=false→x=y):l=l' :=
 List.Perm.eq_of_pairwise (fun x y hx hy h1 h2=>ht x hx y (hp.mem_iff.2 hy) h2 h1) hs hs' hp
end
end Go.Proofs.YtohkipkjleldpaaGreatDoor
namespace Go.Proofs.YtohkipkjleldpaaGreatDoor
open Go.Se Go.RowKit
open Go.ChangeMaps (setBlock)
open Go.MapKept (run_checkKey run_findKey IsKey bytes_beq)
theorem Qcs {P:Program} {w:World} {r:Nat} {es:Array MapEntry} {clock:Nat} (hb:w.heap[r]? = some (.map es clock)):(getObj r).run P w = .ok (.map es clock) w:=Go.MapKept.run_getObj_map hb
theorem Qfn {P:Program} {w:World} {r:Nat} {es:Array MapEntry} {clock:Nat} (o:Obj) (hb:w.heap[r]? = some (.map es clock)):(setObj r o).run P w = .ok () { w with heap:=w.heap.setIfInBounds r o }:=Go.MapKept.run_setObj_map o hb
theorem X8 (w:World) (b:Nat) (o:Obj):Only w (setBlock w b o) b :=
 ⟨rfl,rfl,rfl,by simp[setBlock],fun i hi=>by simp[setBlock,Ne.symm hi]⟩
section
variable {κ:Type} [DecidableEq κ] {β:Type}
def Qe:List (κ×β)→κ→Option β
 | [],_=>none
 | x :: l,k=>if k=x.1 then some x.2 else Qe l k
def Q7:List (κ×β)→κ→β→List (κ×β)
 | [],k,v => [(k,v)]
 | x :: l,k,v=>if k=x.1 then(x.1,v) :: l else x :: Q7 l k v
theorem Xg (k k':κ) (v:β):∀ l:List (κ×β),Qe (Q7 l k v) k'=if k'=k then some v else Qe l k'
 | []=>by simp[Q7,Qe]
 | x :: l=>by
   simp only[Q7]
   by_cases h:k=x.1
   · subst h
     simp only[if_true,Qe]
     split <;> rfl
   · simp only[if_neg h,Qe,Xg k k' v l]
     by_cases h2:k'=x.1
     · subst h2;simp[Ne.symm h]
     · simp[h2]
theorem Q8 (k:κ) (v:β) (l:List (κ×β)):Qe (Q7 l k v) k=some v:=by rw[Xg,if_pos rfl]
theorem Qct (k:κ) (v v':β):∀ l:List (κ×β),Q7 (Q7 l k v) k v'=Q7 l k v'
 | []=>by simp[Q7]
 | x :: l=>by
   simp only[Q7]
   by_cases h:k=x.1
   · simp[h,Q7]
   · simp[h,Q7,Qct k v v' l]
theorem Qgk {k:κ}:∀ {l:List (κ×β)},Qe l k=none↔∀ x∈l,x.1≠k
 | []=>by simp[Qe]
 | x :: l=>by
   simp only[Qe]
   by_cases h:k=x.1
   · simp[h]
   · simp only[if_neg h,Qgk (l:=l),List.mem_cons,forall_eq_or_imp]
     exact⟨fun hh=>⟨fun e=>h e.symm,hh⟩,fun hh=>hh.2⟩
theorem Xt {k:κ} {v:β}:∀ {l:List (κ×β)},Qe l k=some v→(k,v)∈l
 | [],h=>by simp[Qe] at h
 | x :: l,h=>by
   simp only[Qe] at h
   by_cases e:k=x.1
   · rw[if_pos e] at h
     obtain rfl:x.2=v:=by simpa using h
     rw[e];simp
   · rw[if_neg e] at h;exact List.mem_cons_of_mem _ (Xt h)
theorem Qcd {k:κ} {v:β}:∀ {l:List (κ×β)},l.Pairwise (fun x y=>x.1≠y.1)→(k,v)∈l→Qe l k=some v
 | [],_,h=>by simp at h
 | x :: l,hp,h=>by
   rw[List.pairwise_cons] at hp;simp only[Qe];rcases List.mem_cons.1 h with rfl | h
   · simp
   · rw[if_neg (fun e=>hp.1 _ h e.symm)];exact Qcd hp.2 h
theorem X4 {k:κ} {v:β} {y:κ×β}:∀ {l:List (κ×β)},y∈Q7 l k v→y=(k,v)∨(y∈l)
 | [],h=>by simpa [Q7] using h
 | x :: l,h=>by
   simp only[Q7] at h
   by_cases e:k=x.1
   · rw[if_pos e] at h
     rcases List.mem_cons.1 h with rfl | h
     · exact .inl (by rw[e])
     · exact .inr (by simp[h])
   · rw[if_neg e] at h
     rcases List.mem_cons.1 h with rfl | h
     · exact .inr (by simp)
     · rcases X4 h with h | h
       · exact .inl h
       · exact .inr (by simp[h])
theorem Qcu (k:κ) (v:β):∀ l:List (κ×β),(Q7 l k v).map (·.1)=if k∈l.map (·.1) then l.map (·.1) else l.map (·.1) ++ [k]
 | []=>by simp[Q7]
 | x :: l=>by
   simp only[Q7]
   by_cases e:k=x.1
   · simp[e]
   · rw[if_neg e,List.map_cons,Qcu k v l]
     by_cases h:k∈l.map (·.1)
     · simp only[if_pos h,List.map_cons,List.mem_cons];rw[if_pos (.inr h)]
     · simp only[if_neg h,List.map_cons,List.mem_cons];rw[if_neg (by rintro (h1 | h1);exact e h1;exact h h1)];rfl
theorem X5 {k:κ} {v:β} {l:List (κ×β)} (hp:l.Pairwise (fun x y=>x.1≠y.1)):(Q7 l k v).Pairwise (fun x y=>x.1≠y.1):=by
 have h1:(l.map (·.1)).Nodup:=by rw[List.nodup_iff_pairwise_ne,List.pairwise_map];exact hp
 have:((Q7 l k v).map (·.1)).Nodup:=by
  rw[Qcu]
  split
  · exact h1
  · rename_i h
    rw[List.nodup_append]
    exact⟨h1,by simp,fun a ha b hb=>by simp at hb;subst hb;intro e;exact h (e ▸ ha)⟩
 rw[List.nodup_iff_pairwise_ne,List.pairwise_map] at this
 exact this
end
abbrev Ent (κ:Type):=κ×Value×Nat
section
variable {κ:Type} {enc:κ→Value} {P:Program} {mt kt et:TypeId} {w w':World} {b:Nat} {L:List (κ×Value)} {E:List (Ent κ)} {clock:Nat}
def strip (E:List (Ent κ)):List (κ×Value):=E.map fun x=>(x.1,x.2.1)
def mkE (enc:κ→Value) (x:Ent κ):MapEntry:=⟨enc x.1,x.2.1,x.2.2⟩
structure Q6t (w:World) (b:Nat) (enc:κ→Value) (E:List (Ent κ)) (clock:Nat):Prop where
 block:w.heap[b]? = some (.map (E.map (mkE enc)).toArray clock)
 rising:E.Pairwise (fun x y=>x.2.2<y.2.2)
 below:∀ x∈E,x.2.2<clock
 keys:E.Pairwise (fun x y=>x.1≠y.1)
def MapAt (w:World) (b:Nat) (enc:κ→Value) (L:List (κ×Value)):Prop:=∃ E clock,Q6t w b enc E clock∧strip E=L
theorem lt_of_block {w:World} {b:Nat} {o:Obj} (h:w.heap[b]? = some o):b<w.heap.size:=by
 rcases Nat.lt_or_ge b w.heap.size with hlt | hge
 · exact hlt
 · rw[Array.getElem?_eq_none hge] at h;cases h
theorem MapAt.lt (h:MapAt w b enc L):b<w.heap.size:=by
 obtain⟨E,c,hE,_⟩:=h
 exact lt_of_block hE.block
theorem MapAt.keep (h:MapAt w b enc L) (hk:w'.heap[b]? = w.heap[b]?):MapAt w' b enc L:=by
 obtain⟨E,c,hE,hs⟩:=h
 exact⟨E,c,⟨hk.trans hE.block,hE.rising,hE.below,hE.keys⟩,hs⟩
theorem MapAt.ext (h:MapAt w b enc L) (hx:Ext w w'):MapAt w' b enc L:=h.keep (hx.block b h.lt)
theorem MapAt.only (h:MapAt w b enc L) {c:Nat} (hx:Only w w' c) (hc:b≠c):MapAt w' b enc L:=h.keep (hx.block b hc)
theorem MapAt.mod (h:MapAt w b enc L) {S:Nat→Prop} (hx:Mod S w w') (hc:¬ S b):MapAt w' b enc L:=h.keep (hx.block b h.lt hc)
theorem MapAt.new {w1:World} (h:New w w1 b (.map #[] 0)):MapAt w1 b enc []:=⟨[],0,⟨h.at_,by simp,by simp,by simp⟩,rfl⟩
theorem MapAt.keys (h:MapAt w b enc L):L.Pairwise (fun x y=>x.1≠y.1):=by
 obtain⟨E,c,hE,rfl⟩:=h;unfold strip;rw[List.pairwise_map]
 exact hE.keys
def Kept (cl:Cl) (w:World) (b:Nat):Prop:=∀ w',cl.rel w w'→w'.heap[b]? = w.heap[b]?
theorem Qm {w:World} {b:Nat}:Kept .same w b:=fun w' h=>by cases h;rfl
theorem Qid {w:World} {b:Nat} (h:b<w.heap.size):Kept .ext w b:=fun w' hx=>(show Ext w w' from hx).block b h
theorem Qsb {S:Nat→Prop} {w:World} {b:Nat} (h:b<w.heap.size) (hs:¬ S b):Kept (.mods S) w b:=fun w' hx=>(show Mod S w w' from hx).block b h hs
theorem Xv {w:World} {b:Nat} {o o':Obj} (h:w.heap[b]? = some o):(setBlock w b o').heap[b]? = some o':=by
 simp[setBlock,lt_of_block h]
def Q84 (w:World) (b:Nat) (enc:κ→Value) (L:List (κ×Value)) (k:κ) (s:Nat):Prop:=∃ E clock,Q6t w b enc E clock∧strip E=L∧∃ v,(k,v,s)∈E
theorem Q84.keep {k:κ} {s:Nat} (h:Q84 w b enc L k s) (hk:w'.heap[b]? = w.heap[b]?):Q84 w' b enc L k s:=by
 obtain⟨E,c,hE,hs⟩:=h
 exact⟨E,c,⟨hk.trans hE.block,hE.rising,hE.below,hE.keys⟩,hs⟩
theorem Q84.at_ {k:κ} {s:Nat} (h:Q84 w b enc L k s):MapAt w b enc L:=by
 obtain⟨E,c,hE,hs,_⟩:=h
 exact⟨E,c,hE,hs⟩
def Iter (w:World) (r b:Nat) (enc:κ→Value) (L vs:List (κ×Value)):Prop :=
 ∃ E clock V since c0,Q6t w b enc E clock∧strip E=L∧w.heap[r]? = some (.mapIter (some b) since (V.map fun x:Ent κ=>x.2.2).toArray c0)∧(∀ x∈E,x.2.2<since)∧since≤c0∧since≤clock∧strip V=vs∧V.Nodup∧∀ x∈V,x∈E
theorem Iter.map {r:Nat} {vs:List (κ×Value)} (h:Iter w r b enc L vs):MapAt w b enc L:=by
 obtain⟨E,c,V,si,c0,hE,hs,_⟩:=h
 exact⟨E,c,hE,hs⟩
theorem Iter.lt {r:Nat} {vs:List (κ×Value)} (h:Iter w r b enc L vs):r<w.heap.size:=by
 obtain⟨E,c,V,si,c0,hE,hs,hr,_⟩:=h
 exact lt_of_block hr
theorem Iter.ne {r:Nat} {vs:List (κ×Value)} (h:Iter w r b enc L vs):r≠b:=by
 obtain⟨E,c,V,si,c0,hE,hs,hr,_⟩:=h;rintro rfl;rw[hE.block] at hr
 simp at hr
theorem Iter.keep {r:Nat} {vs:List (κ×Value)} (h:Iter w r b enc L vs) (h1:w'.heap[b]? = w.heap[b]?) (h2:w'.heap[r]? = w.heap[r]?):Iter w' r b enc L vs:=by
 obtain⟨E,c,V,si,c0,hE,hs,hr,hh⟩:=h
 exact⟨E,c,V,si,c0,⟨h1.trans hE.block,hE.rising,hE.below,hE.keys⟩,hs,h2.trans hr,hh⟩
theorem Iter.ext {r:Nat} {vs:List (κ×Value)} (h:Iter w r b enc L vs) (hx:Ext w w'):Iter w' r b enc L vs:=h.keep (hx.block _ h.map.lt) (hx.block _ h.lt)
theorem Qfp {α:Type}:∀ {V E:List α},V.Nodup→(∀ x∈V,x∈E)→∃ R,E.Perm (V++R)
 | [],E,_,_=>⟨E,List.Perm.refl _⟩
 | x :: V,E,hn,hs=>by
   obtain⟨E1,E2,rfl⟩:=List.append_of_mem (hs x (by simp));rw[List.nodup_cons] at hn
   obtain⟨R,hR⟩:=Qfp (E:=E1++E2) hn.2 (fun y hy=>by
    have h1:=hs y (by simp[hy]);have hne:y≠x:=fun e=>hn.1 (e ▸ hy)
    simp[hne] at h1 ⊢
    exact h1)
   exact⟨R,List.perm_middle.trans (by simpa using hR.cons x)⟩
theorem Qdh {α:Type} {V E:List α} (hn:V.Nodup) (hs:∀ x∈V,x∈E):V.length≤E.length:=by
 obtain⟨R,hR⟩:=Qfp hn hs;have:=hR.length_eq
 simp at this
 omega
theorem Qec {α:Type} {V E:List α} (hn:V.Nodup) (hE:E.Nodup) (hs:∀ x∈V,x∈E) (hs':∀ x∈E,x∈V):V.Perm E:=by
 obtain⟨R,hR⟩:=Qfp hn hs;have h1:=hR.nodup_iff.1 hE
 have:R = []:=by
  rcases R with _ | ⟨y,R⟩
  · rfl
  · have hy:=hs' y (hR.mem_iff.2 (by simp))
    exact absurd rfl ((List.nodup_append.1 h1).2.2 y hy y (by simp))
 subst this
 simpa using hR.symm
theorem Qg8 {E:List (Ent κ)} (hp:E.Pairwise (fun x y=>x.1≠y.1)) {x y:Ent κ} (hx:x∈E) (hy:y∈E) (h:x.1=y.1):x=y:=by
 induction E with
 | nil=>simp at hx
 | cons z E ih =>
   rw[List.pairwise_cons] at hp;rcases List.mem_cons.1 hx with h1 | h1 <;> rcases List.mem_cons.1 hy with h2 | h2
   · rw[h1,h2]
   · subst h1;exact absurd h (hp.1 _ h2)
   · subst h2;exact absurd h.symm (hp.1 _ h1)
   · exact ih hp.2 h1 h2
theorem map_range (ht:P.underlying mt=some (.map kt et)) (hm:MapAt w b enc L) {R:Value→World→Prop}
 (h:∀ w',Iter w' w.heap.size b enc L []→Ext w w'→R (.pointer (some ⟨w.heap.size,0,none⟩)) w'):Qhr P (Instr.range mt (.map (some b))) w R:=by
 obtain⟨E,c,hE,rfl⟩:=hm;have hx:Ext w (w.alloc (.mapIter (some b) c #[] c)):=(Below.refl _ _).alloc (Nat.le_refl _) _;refine⟨_,w.alloc (.mapIter (some b) c #[] c),?_,h _ ?_ hx⟩
 · simp[Instr.range,run_underlying ht,Qcs hE.block]
 · refine⟨E,c,[],c,c,⟨(hx.block b (lt_of_block hE.block)).trans hE.block,hE.rising,hE.below,hE.keys⟩,rfl,heap_alloc_new w _,hE.below,Nat.le_refl _,Nat.le_refl _,rfl,by simp,by simp⟩
theorem Qjf {E:List (Ent κ)} {n:Nat} {x y:Ent κ} {f:MapEntry→MapEntry} (h:E[n]? = some x) (hf:f (mkE enc x)=mkE enc y) :
 ((E.map (mkE enc)).toArray.modify n f)=((E.set n y).map (mkE enc)).toArray:=by
 apply Array.ext'
 apply List.ext_getElem?
 intro i;simp only[Array.toList_modify,List.getElem?_modify,List.getElem?_map,List.getElem?_set]
 by_cases e:n=i
 · subst e
   have hlt:n<E.length:=(List.getElem?_eq_some_iff.1 h).1;have hx:E[n]=x:=by rw[List.getElem?_eq_getElem hlt] at h;simpa using h
   simp[hx,hf,hlt]
 · simp[e]
theorem Qjm {E:List (Ent κ)} {n:Nat} {k:κ} {v v':Value} {s:Nat} (h:E[n]? = some (k,v,s)) (hE:Q6t w b enc E clock) (hb:w'.heap[b]? = some (.map ((E.set n (k,v',s)).map (mkE enc)).toArray clock)):Q6t w' b enc (E.set n (k,v',s)) clock:=by
 have hlt:n<E.length:=(List.getElem?_eq_some_iff.1 h).1
 have hst:(E.set n (k,v',s)).map (fun x=>(x.1,x.2.2))=E.map (fun x=>(x.1,x.2.2)):=by
  apply List.ext_getElem?
  intro i;simp only[List.getElem?_map,List.getElem?_set]
  by_cases e:n=i
  · subst e
    have hx:E[n]=(k,v,s):=by rw[List.getElem?_eq_getElem hlt] at h;simpa using h
    simp[hx,hlt]
  · simp[e]
 have key:∀ (R:(κ×Nat)→(κ×Nat)→Prop),E.Pairwise (fun x y=>R (x.1,x.2.2) (y.1,y.2.2))→(E.set n (k,v',s)).Pairwise (fun x y=>R (x.1,x.2.2) (y.1,y.2.2)):=by
  intro R hp;have h1:(E.map (fun x=>(x.1,x.2.2))).Pairwise R:=by rw[List.pairwise_map];exact hp
  rw[← hst,List.pairwise_map] at h1
  exact h1
 refine⟨hb,key (fun x y=>x.2<y.2) hE.rising,fun x hx => ?_,key (fun x y=>x.1≠y.1) hE.keys⟩;rcases List.mem_or_eq_of_mem_set hx with h1 | h1
 · exact hE.below x h1
 · rw[h1];exact hE.below (k,v,s) (List.mem_of_getElem? h)
theorem Qmg {E:List (Ent κ)} {k:κ} {v:Value} (h:∀ x∈E,x.1≠k) (hE:Q6t w b enc E clock) (hb:w'.heap[b]? = some (.map ((E ++ [(k,v,clock)]).map (mkE enc)).toArray (clock+1))):Q6t w' b enc (E ++ [(k,v,clock)]) (clock+1):=by
 refine⟨hb,?_,?_,?_⟩
 · rw[List.pairwise_append]
   exact⟨hE.rising,by simp,fun x hx y hy=>by simp at hy;subst hy;exact hE.below x hx⟩
 · intro x hx
   rcases List.mem_append.1 hx with hx | hx
   · exact Nat.lt_succ_of_lt (hE.below x hx)
   · simp at hx;subst hx;exact Nat.lt_succ_self _
 · rw[List.pairwise_append]
   exact⟨hE.keys,by simp,fun x hx y hy=>by simp at hy;subst hy;exact h x hx⟩
variable [DecidableEq κ]
def Qeh:List (Ent κ)→κ→Nat→Option (Nat×Value)
 | [],_,_=>none
 | x :: E,k,i=>if k=x.1 then some (i,x.2.1) else Qeh E k (i+1)
def Q1y:List (Ent κ)→κ→Value→Nat→List (Ent κ)
 | [],k,v,c => [(k,v,c)]
 | x :: E,k,v,c=>if k=x.1 then(x.1,v,x.2.2) :: E else x :: Q1y E k v c
theorem Qdn (k:κ) (v:Value) (c:Nat):∀ E:List (Ent κ),strip (Q1y E k v c)=Q7 (strip E) k v
 | []=>rfl
 | x :: E=>by
   simp only[Q1y,strip,List.map_cons,Q7]
   split
   · rfl
   · simp only[List.map_cons];congr 1;exact Qdn k v c E
theorem Qi8 (k:κ):∀ (E:List (Ent κ)) (i:Nat),(Qeh E k i).map (·.2)=Qe (strip E) k
 | [],_=>rfl
 | x :: E,i=>by
   simp only[Qeh,strip,List.map_cons,Qe]
   split
   · rfl
   · exact Qi8 k E (i+1)
theorem Qgp {k:κ} {v:Value}:∀ {E:List (Ent κ)} {i j:Nat},Qeh E k i=some (j,v)→∃ n s,j=i+n∧E[n]? = some (k,v,s)∧∀ v' c,Q1y E k v' c=E.set n (k,v',s)
 | [],i,j,h=>by simp[Qeh] at h
 | x :: E,i,j,h=>by
   simp only[Qeh] at h
   by_cases e:k=x.1
   · rw[if_pos e] at h
     obtain⟨rfl,rfl⟩:i=j∧x.2.1=v:=by simpa using h
     exact⟨0,x.2.2,rfl,by simp[e],fun v' c=>by simp[Q1y,e]⟩
   · rw[if_neg e] at h
     obtain⟨n,s,h1,h2,h3⟩:=Qgp h
     exact⟨n+1,s,by omega,by simpa using h2,fun v' c=>by simp[Q1y,e,h3]⟩
theorem Qgo {k:κ}:∀ {E:List (Ent κ)} {i:Nat},Qeh E k i=none→(∀ x∈E,x.1≠k)∧∀ v c,Q1y E k v c=E ++ [(k,v,c)]
 | [],i,h=>⟨by simp,fun v c=>rfl⟩
 | x :: E,i,h=>by
   simp only[Qeh] at h
   by_cases e:k=x.1
   · rw[if_pos e] at h;cases h
   · rw[if_neg e] at h
     obtain⟨h1,h2⟩:=Qgo h
     exact⟨by simp only[List.mem_cons,forall_eq_or_imp];exact⟨fun q=>e q.symm,h1⟩,fun v c=>by simp[Q1y,e,h2]⟩
structure Qnc (P:Program) (kt:TypeId) (enc:κ→Value):Prop where
 check:∀ (w:World) (k:κ) (e:Bool),(Instr.checkKey e 10000 kt (enc k)).run P w = .ok () w
 bits:∀ k,Instr.sameBits 10000 (enc k) (enc k)=true
 find:∀ (w:World) (k:κ) (E:List (Ent κ)),(Instr.findKey kt (enc k) (E.map (mkE enc))).run P w = .ok (Qeh E k 0) w
theorem Qo (h:P.underlying kt=some .string):Qnc P kt Value.string where
 check w k e:=by
  rw[show (10000:Nat)=9999+1 from rfl]
  exact run_checkKey h (by simp[IsKey]) e 9999
 bits k:=by simp[Instr.sameBits,bytes_beq]
 find w k E:=by
  refine run_findKey h ?_
  suffices ∀ i,Instr.findNow .string (.string k) (E.map (mkE Value.string)) i=some (Qeh E k i) from this 0
  induction E with
  | nil=>intro i;rfl
  | cons x E ih =>
    intro i;simp only[List.map_cons,Instr.findNow,Qeh,mkE,Instr.sameNow]
    by_cases e:k=x.1
    · subst e
      have:(x.1 == x.1)=true:=(bytes_beq _ _).2 rfl
      simp[this]
    · have:(k == x.1)=false:=by rw[← Bool.not_eq_true,bytes_beq];exact e
      simp only[this,if_neg e];exact ih (i+1)
theorem Qjb (h:P.underlying kt=some (.int .i64)):Qnc P kt (Value.int .i64) where
 check w k e:=by
  rw[show (10000:Nat)=9999+1 from rfl]
  exact run_checkKey h (by simp[IsKey]) e 9999
 bits k:=by simp[Instr.sameBits]
 find w k E:=by
  refine run_findKey h ?_
  suffices ∀ i,Instr.findNow (.int .i64) (.int .i64 k) (E.map (mkE (Value.int .i64))) i=some (Qeh E k i) from this 0
  induction E with
  | nil=>intro i;rfl
  | cons x E ih =>
    intro i;simp only[List.map_cons,Instr.findNow,Qeh,mkE,Instr.sameNow,if_true]
    by_cases e:k=x.1
    · subst e;simp
    · have:(k == x.1)=false:=by simpa using e
      simp only[this,if_neg e];exact ih (i+1)
def Qx9 (T:Tab):List (String×Nat×Nat)→List Value→Bool
 | [],_=>true
 | (nm, t, off) :: fs, xs => !(nm == "_") && (match Qg9 T t with
   | some ⟨.int k,_,_,_⟩=>(match nth xs off with | some (.int k' _)=>decide (k'=k) | _=>false)
   | some ⟨.str,_,_,_⟩=>(match nth xs off with | some (.string _)=>true | _=>false)
   | some ⟨.bool,_,_,_⟩=>(match nth xs off with | some (.bool _)=>true | _=>false)
   | _=>false)&&Qx9 T fs xs
theorem Qj9 {T:Tab} (hT:Qa7 P T) (w:World) (em:Bool) (n:Nat):∀ {gs:List Field} {fs:List (String×Nat×Nat)} {xs:List Value},gs.map (fun f=>(f.name,f.type,f.offset))=fs→Qx9 T fs xs=true →
 ∀ f ∈ gs, f.name ≠ "_" ∧ ∃ v, (part f.type xs.toArray f.offset).run P w = .ok v w ∧ (Instr.checkKey em (n + 1) f.type v).run P w = .ok () w
 | [],_,_,_,_,f,hf=>by simp at hf
 | g :: gs,[],xs,hg,_,f,hf=>by simp at hg
 | g :: gs,(nm,t,off) :: fs,xs,hg,h,f,hf=>by
   simp only[List.map_cons,List.cons.injEq,Prod.mk.injEq] at hg;obtain⟨⟨rfl,rfl,rfl⟩,hg'⟩:=hg;simp only[Qx9,Bool.and_eq_true] at h;obtain⟨⟨h1,h2⟩,h3⟩:=h;rcases List.mem_cons.1 hf with rfl | hf
   · refine⟨by simpa using h1,?_⟩
     split at h2
     · rename_i k s1 s2 s3 ht
       obtain⟨_,d0,_,hd,_,hsh,_⟩:=Xd (hT.get ht);obtain rfl:=Q5q hsh
       split at h2
       · rename_i k' a ha
         exact⟨_,Qbk hd rfl ha w,run_checkKey hd (by simpa [IsKey] using h2) em n⟩
       · cases h2
     · rename_i s1 s2 s3 ht
       obtain⟨_,d0,_,hd,_,hsh,_⟩:=Xd (hT.get ht);obtain rfl:=Qoh hsh
       split at h2
       · rename_i a ha
         exact⟨_,Qbk hd rfl ha w,run_checkKey hd (by simp[IsKey]) em n⟩
       · cases h2
     · rename_i s1 s2 s3 ht
       obtain⟨_,d0,_,hd,_,hsh,_⟩:=Xd (hT.get ht);obtain rfl:=Q5p hsh
       split at h2
       · rename_i a ha
         exact⟨_,Qbk hd rfl ha w,run_checkKey hd (by simp[IsKey]) em n⟩
       · cases h2
     · cases h2
   · exact Qj9 hT w em n hg' h3 f hf
theorem Qew {T:Tab} (hT:Qa7 P T) {fs:List (String×Nat×Nat)} (hs:Q6u P kt fs) {encl:κ→List Value} (hp:∀ k,Qx9 T fs (encl k)=true) (he:∀ a b,eqL T fs (encl a) (encl b)=some (decide (a=b)))
 (hb:∀ k,Instr.sameBits 10000 (.agg (encl k).toArray) (.agg (encl k).toArray)=true):Qnc P kt (fun k => .agg (encl k).toArray) where
 check w k e:=by
  rw[show (10000:Nat)=9999+1 from rfl,Instr.checkKey];simp only[Sem.run_bind,run_underlying hs.und,Result.andThen_ok];rw[← Array.forIn_toList];have deep:=Qj9 hT w e 9998 hs.fields (hp k);generalize (P.fieldsOf kt).toList=L at deep
  induction L with
  | nil=>simp
  | cons f L ih =>
    obtain⟨hn,v,p1,p2⟩:=deep f (by simp);simp only[List.forIn_cons,Sem.run_bind,hn,ne_eq,not_false_eq_true,if_true,Result.andThen_ok,p1,p2,Sem.run_pure]
    exact ih (fun y hy=>deep y (by simp[hy]))
 bits:=hb
 find w k E:=by
  rw[run_findKey_eq w (by rw[hs.und])]
  suffices ∀ i,(Instr.findAsking kt (.agg (encl k).toArray) (E.map (mkE fun k => .agg (encl k).toArray)) i).run P w = .ok (Qeh E k i) w from this 0
  induction E with
  | nil=>intro i;simp[Instr.findAsking,Qeh]
  | cons x E ih =>
    intro i;have h1:=Qjz hT hs (he k x.1) w;simp only[List.map_cons,Instr.findAsking,Qeh,mkE,Sem.run_bind,h1,Result.andThen_ok]
    by_cases e:k=x.1
    · simp[e]
    · simp only[e,decide_false,Bool.false_eq_true,if_false];exact ih (i+1)
theorem Qf2 (ht:P.underlying mt=some (.map kt et)) (K:Qnc P kt enc) {z:Value} (hz:(zeroValue et).run P w = .ok z w) (hm:MapAt w b enc L) (k:κ) (ok:Bool) :
 (Instr.lookup mt (.map (some b)) (enc k) ok).run P w = .ok (if ok then .tuple #[(Qe L k).getD z,.bool (Qe L k).isSome] else(Qe L k).getD z) w:=by
 obtain⟨E,c,hE,rfl⟩:=hm;have hf:=K.find w k E;rw[← Qi8 k E 0];simp only[Instr.lookup,Sem.run_bind,run_underlying ht,Result.andThen_ok,Qcs hE.block,K.check,Sem.run_pure,hf]
 cases hfe:Qeh E k 0 with
 | none=>simp[hz]
 | some p=>simp
theorem Qki (ht:P.underlying mt=some (.map kt et)) (K:Qnc P kt enc) {z:Value} (hz:(zeroValue et).run P w = .ok z w) (k:κ) (ok:Bool) :
 (Instr.lookup mt (.map none) (enc k) ok).run P w = .ok (if ok then .tuple #[z,.bool false] else z) w:=by
 have hf:=K.find w k [];simp only[Instr.lookup,Sem.run_bind,run_underlying ht,Result.andThen_ok,K.check,Sem.run_pure];simp only[List.map_nil,Qeh] at hf
 simp[hf,hz]
theorem X7 (ht:P.underlying mt=some (.map kt et)) (K:Qnc P kt enc) {e:TyE} (he:Q5 P et=some e) {cl:Cl} (hk:Kept cl w b) (hm:MapAt w b enc L) (k:κ) :
 RdS P cl w (Instr.lookup mt (.map (some b)) (enc k) false) ((Qe L k).getD e.zero):=fun w' hw=>by
 have:=Qf2 ht K (Qjs he w') (hm.keep (hk w' hw)) k false
 simpa using this
theorem Qsk (ht:P.underlying mt=some (.map kt et)) (K:Qnc P kt enc) {e:TyE} (he:Q5 P et=some e) {cl:Cl} (hk:Kept cl w b) (hm:MapAt w b enc L) (k:κ) :
 RdS P cl w (Instr.lookup mt (.map (some b)) (enc k) true) (.tuple #[(Qe L k).getD e.zero,.bool (Qe L k).isSome]):=fun w' hw=>by
 have:=Qf2 ht K (Qjs he w') (hm.keep (hk w' hw)) k true
 simpa using this
theorem Qq (ht:P.underlying mt=some (.map kt et)) (K:Qnc P kt enc) (hm:MapAt w b enc L) (k:κ) (v:Value) {R:Value→World→Prop}
 (h:∀ w',MapAt w' b enc (Q7 L k v)→Only w w' b→R undef w'):Qub P (Instr.mapUpdate mt (.map (some b)) (enc k) v) w R:=by
 obtain⟨E,c,hE,rfl⟩:=hm;have hf:=K.find w k E
 have hrun:∃ o,(Instr.mapUpdate mt (.map (some b)) (enc k) v).run P w = .ok () (setBlock w b o)∧MapAt (setBlock w b o) b enc (Q7 (strip E) k v):=by
  cases hfe:Qeh E k 0 with
  | none =>
    obtain⟨h1,h2⟩:=Qgo hfe;refine⟨.map ((E ++ [(k,v,c)]).map (mkE enc)).toArray (c+1),?_,?_⟩
    · rw[hfe] at hf
      simp only[Instr.mapUpdate,Sem.run_bind,run_underlying ht,Result.andThen_ok,Qcs hE.block,K.check,hf,Qfn _ hE.block]
      simp[setBlock,mkE]
    · refine⟨_,_,Qmg h1 hE (Xv hE.block),?_⟩
      rw[← h2 v c,Qdn]
  | some p =>
    obtain⟨j,v0⟩:=p;obtain⟨n,s,hj,hn,hs⟩:=Qgp hfe;obtain rfl:j=n:=by omega
    refine⟨.map ((E.set j (k,v,s)).map (mkE enc)).toArray c,?_,?_⟩
    · rw[hfe] at hf
      have hkey:(((E.map (mkE enc)).toArray[j]?).map (·.key)).getD (enc k)=enc k:=by simp[hn,mkE]
      simp only[Instr.mapUpdate,Sem.run_bind,run_underlying ht,Result.andThen_ok,Qcs hE.block,K.check,hf,hkey,Instr.keyThatStays,K.bits,if_true,Sem.run_pure,Qfn _ hE.block];rw[Qjf (y:=(k,v,s)) hn rfl]
      rfl
    · refine⟨_,_,Qjm hn hE (Xv hE.block),?_⟩
      rw[← hs v c,Qdn]
 obtain⟨o,h1,h2⟩:=hrun
 exact⟨_,h1,h _ h2 (X8 w b o)⟩
theorem Ql1 (ht:P.underlying mt=some (.map kt et)) (K:Qnc P kt enc) {e:TyE} (he:Q5 P et=some e) (hm:MapAt w b enc L) (k:κ) {R:Value→World→Prop}
 (h:∀ w' s,Q84 w' b enc (Q7 L k ((Qe L k).getD e.zero)) k s→Only w w' b→R (.tuple #[(Qe L k).getD e.zero,.int .i64 (s:Nat)]) w'):Qhr P (Instr.mapEntry mt (.map (some b)) (enc k)) w R:=by
 obtain⟨E,c,hE,rfl⟩:=hm;have hf:=K.find w k E;have hlk:=Qi8 k E 0;have hz:=Qjs he w
 have hrun:∃ o s,(Instr.mapEntry mt (.map (some b)) (enc k)).run P w = .ok (.tuple #[(Qe (strip E) k).getD e.zero,.int .i64 (s:Nat)]) (setBlock w b o)∧Q84 (setBlock w b o) b enc (Q7 (strip E) k ((Qe (strip E) k).getD e.zero)) k s:=by
  cases hfe:Qeh E k 0 with
  | none =>
    obtain⟨h1,h2⟩:=Qgo hfe;rw[hfe] at hlk;rw[← hlk];refine⟨.map ((E ++ [(k,e.zero,c)]).map (mkE enc)).toArray (c+1),c,?_,?_⟩
    · rw[hfe] at hf
      simp only[Instr.mapEntry,Sem.run_bind,run_underlying ht,Result.andThen_ok,Qcs hE.block,K.check,hf,hz,Qfn _ hE.block,Sem.run_pure]
      simp[setBlock,mkE,goInt]
    · refine⟨_,_,Qmg h1 hE (Xv hE.block),?_,e.zero,by simp⟩
      rw[← h2 e.zero c,Qdn];rfl
  | some p =>
    obtain⟨j,v0⟩:=p;obtain⟨n,s,hj,hn,hs⟩:=Qgp hfe;obtain rfl:j=n:=by omega
    rw[hfe] at hlk;rw[← hlk];have hn':(E.map (mkE enc)).toArray[j]? = some (mkE enc (k,v0,s)):=by simp[hn]
    refine⟨.map ((E.set j (k,v0,s)).map (mkE enc)).toArray c,s,?_,?_⟩
    · rw[hfe] at hf
      simp only[Instr.mapEntry,Sem.run_bind,run_underlying ht,Result.andThen_ok,Qcs hE.block,K.check,hf,hn',Option.map_some,Option.getD_some,mkE,Instr.keyThatStays,K.bits,if_true,Sem.run_pure,Qfn _ hE.block];have:=Qjf (enc:=enc) (f:=fun e=>{ e with key:=enc k }) (y:=(k,v0,s)) hn rfl;rw[this]
      rfl
    · refine⟨_,_,Qjm hn hE (Xv hE.block),?_,v0,?_⟩
      · rw[← hs v0 c,Qdn];rfl
      · have hlt:j<E.length:=(List.getElem?_eq_some_iff.1 hn).1
        exact List.mem_of_getElem? (i:=j) (by simp[List.getElem?_set,hlt])
 obtain⟨o,s,h1,h2⟩:=hrun
 exact⟨_,_,h1,h _ s h2 (X8 w b o)⟩
theorem Ql2 {k:κ} {s:Nat} (hm:Q84 w b enc L k s) (v:Value) {R:Value→World→Prop}
 (h:∀ w',MapAt w' b enc (Q7 L k v)→Only w w' b→R undef w'):Qub P (Instr.entryStore mt (.map (some b)) (.int .i64 (s:Nat)) v) w R:=by
 obtain⟨E,c,hE,rfl,v0,hin⟩:=hm;obtain⟨n,hn⟩:=List.getElem?_of_mem hin;have hlt:n<E.length:=(List.getElem?_eq_some_iff.1 hn).1
 have hidx:((E.map (mkE enc)).toArray.findIdx? (fun e=>(e.born:Int) == (s:Int)))=some n:=by
  rw[List.findIdx?_toArray,List.findIdx?_eq_some_iff_getElem];refine⟨by simpa using hlt,?_,fun j hj => ?_⟩
  · have:E[n]=(k,v0,s):=by rw[List.getElem?_eq_getElem hlt] at hn;simpa using hn
    simp[mkE,this]
  · have hp:=List.pairwise_iff_getElem.1 hE.rising j n (by omega) hlt hj
    have:E[n]=(k,v0,s):=by rw[List.getElem?_eq_getElem hlt] at hn;simpa using hn
    rw[this] at hp
    simp[mkE]
    simp at hp
    omega
 have hset:Q1y E k v c=E.set n (k,v,s):=by
  have:∀ (E:List (Ent κ)) (n:Nat),E.Pairwise (fun x y=>x.1≠y.1)→E[n]? = some (k,v0,s)→Q1y E k v c=E.set n (k,v,s):=by
   intro E
   induction E with
   | nil=>intro n _ h;simp at h
   | cons x E ih =>
     intro n hp h;rw[List.pairwise_cons] at hp
     cases n with
     | zero =>
       obtain rfl:x=(k,v0,s):=by simpa using h
       simp[Q1y]
     | succ n =>
       have hm:(k,v0,s)∈E:=List.mem_of_getElem? (i:=n) (by simpa using h);simp only[Q1y,if_neg (fun e:k=x.1=>hp.1 _ hm e.symm),List.set_cons_succ];rw[ih n hp.2 (by simpa using h)]
  exact this E n hE.keys hn
 refine⟨setBlock w b (.map ((E.set n (k,v,s)).map (mkE enc)).toArray c),?_,h _ ⟨_,_,Qjm hn hE (Xv hE.block),?_⟩ (X8 _ _ _)⟩
 · have hm:=Qjf (enc:=enc) (f:=fun e=>{ e with val:=v }) (y:=(k,v,s)) hn rfl
   have ha:(asInt (.int .i64 (s:Int))).run P w = .ok (s:Int) w:=by simp[asInt,asIntOf]
   simp only[Instr.entryStore,Sem.run_bind,Qcs hE.block,Result.andThen_ok,ha,hidx,Qfn _ hE.block];rw[hm]
   rfl
 · rw[← hset,Qdn]
end
end Go.Proofs.YtohkipkjleldpaaGreatDoor
namespace Go.Proofs.YtohkipkjleldpaaGreatDoor
open Go.Se Go.RowKit
open Go.ChangeMaps (setBlock)
section
variable {κ:Type} {enc:κ→Value} {P:Program} {w w':World} {b:Nat} {L:List (κ×Value)}
theorem Qeb {r:Nat} {vs:List (κ×Value)} {ty:TypeId} (hi:Iter w r b enc L vs) {R:Value→World→Prop}
 (hdone:vs.Perm L→R (.tuple #[.bool false]) w)
 (hstep:∀ x w',x∈L→(∀ y∈vs,y.1≠x.1)→vs.length<L.length→Iter w' r b enc L (vs ++ [x])→Only w w' r→(∀ w2,w2.heap[r]? = w'.heap[r]? → w2.heap[b]? = w'.heap[b]? → (Instr.entry (.pointer (some ⟨r,0,none⟩))).run P w2 = .ok (.tuple #[enc x.1,x.2]) w2)→R (.tuple #[.bool true,enc x.1,x.2]) w') :
 Qhr P (Instr.next (.pointer (some ⟨r,0,none⟩)) false ty) w R:=by
 have hrb:=hi.ne;obtain⟨E,c,V,si,c0,hE,rfl,hr,hold,hsc,hsk,rfl,hnd,hsub⟩:=hi
 have hold':∀ x∈(E.map (mkE enc)).toArray.toList,x.born<si:=by
  intro x hx;simp only[List.mem_map] at hx;obtain⟨y,hy,rfl⟩:=hx
  exact hold y hy
 have hstamp:∀ x∈E,∀ y∈E,x.2.2=y.2.2→x=y:=by
  have:∀ E:List (Ent κ),E.Pairwise (fun x y=>x.2.2<y.2.2)→∀ x∈E,∀ y∈E,x.2.2=y.2.2→x=y:=by
   intro E
   induction E with
   | nil=>intro _ x hx;simp at hx
   | cons z E ih =>
     intro hp x hx y hy he;rw[List.pairwise_cons] at hp;rcases List.mem_cons.1 hx with h1 | h1 <;> rcases List.mem_cons.1 hy with h2 | h2
     · rw[h1,h2]
     · subst h1;have:=hp.1 _ h2;omega
     · subst h2;have:=hp.1 _ h1;omega
     · exact ih hp.2 x h1 y h2 he
  exact this E hE.rising
 rcases run_next_at (P:=P) w ty r b si c0 _ _ c hr hE.block hold' hsc with⟨h0,hrun⟩ | ⟨e,he,w1,hw1,hrun⟩
 · refine⟨_,_,hrun,hdone ?_⟩
   have hall:∀ x∈E,x∈V:=by
    intro x hx;have hl:leftOf (E.map (mkE enc)).toArray (V.map fun x:Ent κ=>x.2.2).toArray = #[]:=Array.eq_empty_of_size_eq_zero h0;unfold leftOf at hl;rw[Array.filter_eq_empty_iff] at hl;have:=hl (mkE enc x) (by simp;exact⟨_,_,_,hx,rfl⟩)
    simp[mkE] at this
    obtain⟨a,a',hv⟩:=this;have h1:=hsub _ hv;have h2:=hstamp _ hx _ h1 rfl;rw[h2];exact hv
   have hp:V.Perm E:=by
    have hEn:E.Nodup:=by
     rw[List.nodup_iff_pairwise_ne]
     exact hE.rising.imp (fun h e=>by subst e;omega)
    exact Qec hnd hEn hsub hall
   exact hp.map _
 · unfold leftOf at he
   simp only[Array.mem_toList_iff,Array.mem_filter,List.mem_toArray,List.mem_map] at he;obtain⟨⟨x,hx,rfl⟩,hns⟩:=he
   have hxV:x∉V:=by
    intro hv
    simp[mkE] at hns
    exact hns x.1 x.2.1 hv
   have hr1:w1.heap=w.heap:=by rcases hw1 with rfl | rfl <;> rfl
   have hon:Only w (setBlock w1 r (.mapIter (some b) si ((V.map fun x:Ent κ=>x.2.2).toArray.push (mkE enc x).born) c)) r:=by
    rcases hw1 with rfl | rfl
    · exact X8 _ _ _
    · have h2:=X8 w.drew r (.mapIter (some b) si ((V.map fun x:Ent κ=>x.2.2).toArray.push (mkE enc x).born) c)
      exact⟨h2.os,h2.tape,h2.output,h2.size,h2.block⟩
   refine⟨_,_,hrun,hstep (x.1,x.2.1) _ ?_ ?_ ?_ ?_ hon ?_⟩
   · exact List.mem_map.2 ⟨x,hx,rfl⟩
   · intro y hy he
     obtain⟨z,hz,rfl⟩:=List.mem_map.1 hy;have:=Qg8 hE.keys (hsub z hz) hx he
     exact hxV (this ▸ hz)
   · have:(x :: V).length≤E.length:=Qdh (List.nodup_cons.2 ⟨hxV,hnd⟩) (fun y hy=>by
      rcases List.mem_cons.1 hy with rfl | hy
      · exact hx
      · exact hsub y hy)
     simp[strip] at this ⊢
     omega
   · refine⟨E,c,V ++ [x],si,c,⟨(hon.block b (Ne.symm hrb)).trans hE.block,hE.rising,hE.below,hE.keys⟩,rfl,?_,hold,hsk,hsk,by simp[strip],?_,?_⟩
     · rw[Xv (o := .mapIter (some b) si (V.map fun x:Ent κ=>x.2.2).toArray c0) (by rw[hr1];exact hr)]
       simp[mkE]
     · rw[List.nodup_append]
       exact⟨hnd,by simp,fun a ha y hy=>by simp at hy;subst hy;rintro rfl;exact hxV ha⟩
     · intro y hy
       rcases List.mem_append.1 hy with hy | hy
       · exact hsub y hy
       · simp at hy;subst hy;exact hx
   · intro w2 h1 h2
     have hrr:w2.heap[r]? = some (.mapIter (some b) si ((V.map fun x:Ent κ=>x.2.2).toArray.push (mkE enc x).born) c):=by
      rw[h1,Xv (o := .mapIter (some b) si (V.map fun x:Ent κ=>x.2.2).toArray c0) (by rw[hr1];exact hr)]
     have hbb:w2.heap[b]? = some (.map (E.map (mkE enc)).toArray c):=by rw[h2,(hon.block b (Ne.symm hrb))];exact hE.block
     refine run_entry_at w2 r b si _ _ c (mkE enc x) hrr hbb (by simp;exact⟨_,_,_,hx,rfl⟩) ?_;simp only[List.map_map];rw[List.nodup_iff_pairwise_ne,List.pairwise_map]
     exact hE.rising.imp (fun h e=>by simp[mkE] at e;omega)
theorem Qat {r:Nat} {R:Value→World→Prop} {x:Value} (h:(Instr.entry (.pointer (some ⟨r,0,none⟩))).run P w = .ok x w) (hR:R x w):Qhr P (Instr.entry (.pointer (some ⟨r,0,none⟩))) w R:=⟨_,_,h,hR⟩
end
end Go.Proofs.YtohkipkjleldpaaGreatDoor
namespace Go.Proofs.YtohkipkjleldpaaGreatDoor
open Go.Se Go.RowKit
def Ql4 (c:UInt8):Bool:=((decide ((97:Int)≤c.toNat)&&decide ((c.toNat:Int)≤122))||(decide ((48:Int)≤c.toNat)&&decide ((c.toNat:Int)≤57)))||decide ((c.toNat:Int)=45)
def Qn (s:ByteArray):Bool:=decide (1≤s.size)&&decide (s.size≤24)&&s.data.toList.all Ql4
theorem bytes_at (s:ByteArray) (k:Nat) (h:k<s.size):s[k]? = some (s.data.toList[k]'(by simpa using h)):=by
 rw[getElem?_pos s k h]
 rfl
theorem Q6w {α:Type} {l:List α} {p:α→Bool} {k:Nat} (h:∀ i (hi:i<l.length),i<k→p l[i]=true) (hk:l.length≤k):l.all p=true:=by
 rw[List.all_eq_true];intro x hx;obtain⟨i,hi,rfl⟩:=List.getElem_of_mem hx
 exact h i hi (by omega)
theorem Q9x {α:Type} {l:List α} {p:α→Bool} {k:Nat} (hk:k<l.length) (h:p l[k]=false):l.all p=false:=by
 rw[List.all_eq_false]
 exact⟨l[k],List.getElem_mem hk,by simp[h]⟩
def inB (n lo hi:Int):Bool:=decide (lo≤n)&&decide (n≤hi)
def Qci (s:ByteArray):Option Nat:=s.data.toList.findIdx? (· == 59)
def Q9a (s:ByteArray):Int:=match Qci s with | some i=>i | none => -1
theorem Qmf {s:ByteArray} {i:Nat} (h:Qci s=some i):i<s.size:=by
 unfold Qci at h;rw[List.findIdx?_eq_some_iff_getElem] at h;obtain⟨h1,_⟩:=h
 simpa using h1
def Qb3 (s:ByteArray):ByteArray:=match Qci s with | some i=>s.extract 0 i | none=>s
def Qav (s:ByteArray):List Value := [.string s]
theorem Xi (s:ByteArray):(Qav s).length=1:=rfl
theorem Qyi (s:ByteArray):∀ u∈Qav s,u.oneCell'=true:=by simp[Qav,Value.oneCell']
abbrev SlT:=Sl Qav 1
theorem Xdd:Tryz.prog.underlying 60=some (.slice 9):=by kernel_rfl
def partsOf (c:UInt8):List UInt8→List (List UInt8)
 | [] => [[]]
 | x :: r=>if x=c then [] :: partsOf c r else match partsOf c r with
   | [] => [[x]]
   | p :: ps=>(x :: p) :: ps
theorem Qn8 {c:UInt8}:∀ {a:List UInt8},(∀ x∈a,x≠c)→partsOf c a = [a]
 | [],_=>rfl
 | x :: a,h=>by
   have:=Qn8 (c:=c) (a:=a) fun y hy=>h y (by simp[hy])
   simp[partsOf,h x (by simp),this]
theorem Q77 (c:UInt8):∀ l:List UInt8,partsOf c l ≠ []
 | []=>by simp[partsOf]
 | x :: r=>by
   unfold partsOf
   split
   · simp
   · split <;> simp
theorem Qsu (c:UInt8):∀ l:List UInt8,(partsOf c l).length≤l.length+1
 | []=>by simp[partsOf]
 | x :: r=>by
   have:=Qsu c r;unfold partsOf
   split
   · simp;omega
   · split
     · simp
     · rename_i p ps hp
       rw[hp] at this
       simp at this ⊢;omega
def bytesOf (l:List UInt8):ByteArray:=⟨l.toArray⟩
def Qce (c:UInt8) (s:ByteArray):List ByteArray:=(partsOf c s.data.toList).map bytesOf
theorem Qea (s:ByteArray) (i j:Nat):(s.extract i j).data.toList=(s.data.toList.drop i).take (j-i):=by
 rw[ByteArray.data_extract,Array.toList_extract]
theorem Qh7 (s:ByteArray) (i j:Nat):s.extract i j=bytesOf ((s.data.toList.drop i).take (j-i)):=by
 rw[← Qea];rfl
def Xf (s:ByteArray):List ByteArray:=match Qci s with
 | some i=>if i+1=s.size then [] else Qce 44 (s.extract (i+1) s.size)
 | none => []
theorem Qwr {s:ByteArray} {i:Nat} (hp:Qci s=some i) (h:¬ i+1=s.size):Xf s=Qce 44 (s.extract (i+1) s.size):=by
 unfold Xf;rw[hp];simp[h]
def bLt (a b:ByteArray):Bool:=Op.bytesLess a.toList b.toList
def Qtn (l:List ByteArray) (i:Nat):Bool:=Qn (l.getD i .empty)&&(i == 0||bLt (l.getD (i-1) .empty) (l.getD i .empty))
def Qgh (l:List ByteArray):Bool:=(List.range l.length).all (Qtn l)
def Qcc (s:ByteArray):Bool:=(Qci s).isSome&&Qn (Qb3 s)&&(Qgh (Xf s)&&decide ((Xf s).length≤8))
theorem Q1i {l:List ByteArray} {k:Nat} (h:∀ i,i<k→Qtn l i=true) (hk:l.length≤k):Qgh l=true:=by
 unfold Qgh;rw[List.all_eq_true];intro i hi
 exact h i (by have:=List.mem_range.1 hi;omega)
theorem Q1j {l:List ByteArray} {k:Nat} (hk:k<l.length) (h:Qtn l k=false):Qgh l=false:=by
 unfold Qgh;rw[List.all_eq_false]
 exact⟨k,List.mem_range.2 hk,by simp[h]⟩
theorem getD_lt {α:Type} {l:List α} {i:Nat} {d:α} (h:i<l.length):l.getD i d=l[i]:=by
 rw[List.getD_eq_getElem?_getD,List.getElem?_eq_getElem h];rfl
theorem Sl.getS {w:World} {A:Option Addr} {l:List ByteArray} (h:SlT w A l) {k:Nat} (hk:k<l.length):∃ a,A=some a∧w.cell? (a.add (k*1))=some (.string (l.getD k .empty)):=by
 obtain⟨a,ha,hc⟩:=h.get hk
 exact⟨a,ha,by rw[getD_lt hk];exact Qv hc⟩
theorem Qyl (s:ByteArray):(Xf s).length≤s.size+1:=by
 unfold Xf
 split
 · split
   · simp
   · have:=Qsu 44 (s.extract (‹Nat› + 1) s.size).data.toList
     simp[Qce] at this ⊢
     omega
 · simp
def k6 (e:Ev):Bool:=decide (e.kind=0)||decide (e.kind=1)||decide (e.kind=2)||decide (e.kind=3)||decide (e.kind=5)||decide (e.kind=6)
def k4 (e:Ev):Bool:=decide (e.kind=7)||decide (e.kind=8)||decide (e.kind=9)||decide (e.kind=10)
def Qie (e:Ev):Bool :=
 bif k6 e then Qn e.person&&Qn e.item&&decide (e.text=⟨#[]⟩)&&decide (e.val=0)
 else bif decide (e.kind=4) then Qn e.person&&Qn e.item&&decide (e.text=⟨#[]⟩)&&inB e.val 1 5
 else bif k4 e then Qn e.person&&decide (e.item=⟨#[]⟩)&&Qn e.text&&decide (e.val=0)
 else bif decide (e.kind=11) then decide (e.person=⟨#[]⟩)&&Qn e.item&&Qcc e.text&&inB e.val 0 1048576
 else bif decide (e.kind=12) then decide (e.person=⟨#[]⟩)&&Qn e.item&&decide (e.text=⟨#[]⟩)&&inB e.val 0 1048576
 else bif decide (e.kind=13) then decide (e.person=⟨#[]⟩)&&Qn e.item&&decide (e.text=⟨#[]⟩)&&decide (e.val=0)
 else bif decide (e.kind=14) then Qn e.person&&decide (e.item=⟨#[]⟩)&&decide (e.text=⟨#[]⟩)&&decide (e.val=0)
 else false
def Xn (e:Ev):Bool:=Qn e.src&&inB e.num 1 1099511627776&&inB e.at_ 0 1099511627776&&Qie e
def Qx (a b:Ev):Bool:=bif decide (a.at_=b.at_) then(bif decide (a.src=b.src) then decide (a.num<b.num) else bLt a.src b.src) else decide (a.at_<b.at_)
def Qcf (s:ByteArray):ByteArray:=bif decide (s=⟨#[]⟩) then⟨#[46]⟩ else s
def kindNames:List ByteArray := [⟨#[115,101,101,110]⟩,⟨#[111,112,101,110,101,100]⟩,⟨#[102,105,110,105,115,104,101,100]⟩,⟨#[98,111,117,103,104,116]⟩,⟨#[114,97,116,101,100]⟩,⟨#[104,105,100,100,101,110]⟩,⟨#[117,110,104,105,100,100,101,110]⟩,⟨#[102,111,108,108,111,119,101,100]⟩,⟨#[117,110,102,111,108,108,111,119,101,100]⟩,⟨#[109,117,116,101,100]⟩,⟨#[117,110,109,117,116,101,100]⟩,⟨#[108,105,115,116,101,100]⟩,⟨#[115,116,111,99,107,101,100]⟩,⟨#[100,101,108,105,115,116,101,100]⟩,⟨#[102,111,114,103,111,116,116,101,110]⟩]
theorem Qxd {m:Nat} (h:9<m):Lib.decDigits m=Lib.decDigits (m/10) ++ [UInt8.ofNat (48+m % 10)]:=by
 rw[Lib.decDigits,dif_neg (by omega)]
theorem Xae (n:Nat) (h:n<9223372036854775808):(Lib.decDigits n).length≤21:=by
 have:=Lib.itoa_length_le (n:Int) (by omega) (by omega);rw[Lib.itoa_nonneg] at this
 exact this
theorem Qnk (a:List UInt8):(bytesOf a).size=a.length:=by simp[bytesOf,ByteArray.size]
def Qru (n:Nat):ByteArray:=bytesOf (Lib.decDigits n)
def spB:ByteArray:=⟨#[32]⟩
theorem sz2 {a b:ByteArray} (ha:a.size≤1000000000) (hb:b.size≤1000000000):a.size+b.size≤9223372036854775807:=by omega
def knB (e:Ev):ByteArray:=kindNames.getD e.kind.toNat .empty
def Qi0 (e:Ev):ByteArray :=
 e.src++spB++Qru e.num.toNat++spB++Qru e.at_.toNat++spB++knB e++spB++Qcf e.person++spB++Qcf e.item++spB++Qru e.val.toNat++spB++Qcf e.text
structure FOk (e:Ev):Prop where
 num:0≤e.num∧e.num<9223372036854775808
 at_:0≤e.at_∧e.at_<9223372036854775808
 val:0≤e.val∧e.val<9223372036854775808
 kind:0≤e.kind∧e.kind<15
 src:e.src.size<1000000
 person:e.person.size<1000000
 item:e.item.size<1000000
 text:e.text.size<1000000
theorem Qh3 (n:Nat) (h:n<9223372036854775808):(Qru n).size≤21:=by
 unfold Qru;rw[Qnk];exact Xae n h
def Qaw (a b:Ev):Bool:=bif Qx a b||Qx b a then Qx a b else bLt (Qi0 a) (Qi0 b)
def Qb7 (e x:Ev):Bool:=decide (x.src=e.src)&&decide (x.num=e.num)
def Qao (out:List Ev) (e:Ev):List Ev:=match out.findIdx? (Qb7 e) with
 | none=>out ++ [e]
 | some k=>bif Qaw e (out.getD k e) then out.set k e else out
def Qc1 (l:List Ev):List Ev:=l.foldl Qao []
theorem Qqb (out:List Ev) (e:Ev):(Qao out e).length≤out.length+1:=by
 unfold Qao
 split
 · simp
 · cases Qaw e (out.getD _ e) <;> simp
theorem Qih:∀ (l out:List Ev),(l.foldl Qao out).length≤out.length+l.length
 | [],out=>by simp
 | e :: l,out=>by
   have h1:=Qih l (Qao out e);have h2:=Qqb out e
   simp at h1 ⊢
   omega
theorem Qx5 (l:List Ev):(Qc1 l).length≤l.length:=by
 have:=Qih l []
 simpa [Qc1] using this
theorem Qqc {out:List Ev} {e x:Ev} (h:x∈Qao out e):x∈out∨x=e:=by
 unfold Qao at h
 split at h
 · simpa using h
 · cases hb:Qaw e (out.getD _ e) <;> rw[hb] at h
   · exact .inl h
   · exact List.mem_or_eq_of_mem_set h
theorem Qii:∀ {l out:List Ev} {x:Ev},x∈l.foldl Qao out→x∈out∨x∈l
 | [],out,x,h => .inl h
 | e :: l,out,x,h=>by
   rcases Qii (l:=l) h with h | h
   · rcases Qqc h with h | h
     · exact .inl h
     · exact .inr (by simp[h])
   · exact .inr (by simp[h])
theorem Qgu {l:List Ev} {x:Ev} (h:x∈Qc1 l):x∈l:=by
 rcases Qii h with h | h
 · simp at h
 · exact h
theorem Qlh:∀ x:List UInt8,Op.bytesLess x x=false
 | []=>rfl
 | a :: x=>by simp[Op.bytesLess,Qlh x]
theorem Q85 (x:List UInt8):Op.bytesLess x []=false:=by cases x <;> rfl
theorem Xdc {a b:UInt8}:a<b↔a.toNat<b.toNat:=Iff.rfl
theorem Xdb {a b:UInt8}:a=b↔a.toNat=b.toNat:=UInt8.toNat_inj.symm
theorem Quh {a b:UInt8} {x y:List UInt8}:Op.bytesLess (a :: x) (b :: y)=true↔a.toNat<b.toNat∨(a=b∧Op.bytesLess x y=true):=by
 simp only[Op.bytesLess,Bool.or_eq_true,decide_eq_true_eq,Bool.and_eq_true,beq_iff_eq,Xdc]
theorem Qoy:∀ {x y z:List UInt8},Op.bytesLess x y=true→Op.bytesLess y z=true→Op.bytesLess x z=true
 | x,[],z,h,_=>by rw[Q85] at h;cases h
 | _,b :: y,[],_,h=>by rw[Q85] at h;cases h
 | [],b :: y,c :: z,_,_=>rfl
 | a :: x,b :: y,c :: z,h,k=>by
   rw[Quh] at h k ⊢;rcases h with h | ⟨rfl,h⟩ <;> rcases k with k | ⟨rfl,k⟩
   · exact .inl (by omega)
   · exact .inl h
   · exact .inl k
   · exact .inr ⟨rfl,Qoy h k⟩
theorem Q86:∀ {x y:List UInt8},Op.bytesLess x y=false→Op.bytesLess y x=false→x=y
 | [],[],_,_=>rfl
 | [],b :: y,h,_=>by simp[Op.bytesLess] at h
 | a :: x,[],_,h=>by simp[Op.bytesLess] at h
 | a :: x,b :: y,h,k=>by
   rw[← Bool.not_eq_true,Quh] at h k;have h1:a=b:=by rw[Xdb];omega
   subst h1;rw[Q86 (x:=x) (y:=y) (by rw[← Bool.not_eq_true];exact fun e=>h (.inr ⟨rfl,e⟩)) (by rw[← Bool.not_eq_true];exact fun e=>k (.inr ⟨rfl,e⟩))]
theorem Q62 {x y:List UInt8} (h:Op.bytesLess x y=true):Op.bytesLess y x=false:=by
 cases k:Op.bytesLess y x with
 | false=>rfl
 | true=>have:=Qoy h k;rw[Qlh] at this;cases this
theorem Qrn:∀ x y:List UInt8,Lib.compareBytes x y=if Op.bytesLess x y=true then -1 else if Op.bytesLess y x=true then 1 else 0
 | [],[]=>rfl
 | [],b :: y=>by simp[Lib.compareBytes,Op.bytesLess]
 | a :: x,[]=>by simp[Lib.compareBytes,Op.bytesLess]
 | a :: x,b :: y=>by
   simp only[Lib.compareBytes,Quh,Qrn x y,Xdc]
   by_cases h1:a.toNat<b.toNat
   · simp[h1]
   · by_cases h2:b.toNat<a.toNat
     · have hn:¬ (a=b):=fun e=>by rw[e] at h2;omega
       simp[h1,h2,hn]
     · have:a=b:=by rw[Xdb];omega
       subst this
       simp[h1]
theorem Q2f {a b:ByteArray} (h:a.toList=b.toList):a=b:=by
 rw[ByteArray.toList_eq,ByteArray.toList_eq] at h
 exact WideShapes.bytes_inj h
theorem Xj (a:ByteArray):bLt a a=false:=Qlh _
theorem Qa2 {a b c:ByteArray} (h:bLt a b=true) (k:bLt b c=true):bLt a c=true:=Qoy h k
theorem Qa9 {a b:ByteArray} (h:bLt a b=false) (k:bLt b a=false):a=b:=Q2f (Q86 h k)
theorem Qcv {a b:ByteArray} (h:bLt a b=true):bLt b a=false:=Q62 h
def Qd7 (a b:ByteArray):Int:=if bLt a b=true then -1 else if bLt b a=true then 1 else 0
theorem Q99 (a b:ByteArray):Lib.compareBytes a.data.toList b.data.toList=Qd7 a b:=by
 rw[Qrn];unfold Qd7 bLt;rw[ByteArray.toList_eq,ByteArray.toList_eq]
def Qd0 (a b:Int):Int:=if a<b then -1 else if b<a then 1 else 0
theorem Qdq {a b:Int}:Qd0 a b=0↔a=b:=by unfold Qd0;split <;> (try split) <;> omega
theorem Qds {a b:ByteArray}:Qd7 a b=0↔a=b:=by
 unfold Qd7;constructor
 · intro h
   split at h
   · omega
   · split at h
     · omega
     · rename_i h1 h2;exact Qa9 (by simpa using h1) (by simpa using h2)
 · rintro rfl;simp[Xj]
theorem Qfi (a b:Ev):Qx a b=true↔a.at_<b.at_∨(a.at_=b.at_∧(bLt a.src b.src=true∨(a.src=b.src∧a.num<b.num))):=by
 unfold Qx
 by_cases h:a.at_=b.at_
 · by_cases k:a.src=b.src
   · simp[h,k,Xj]
   · simp[h,k]
 · simp[h]
def Qfz (a b:Ev):Int:=if Qd0 a.at_ b.at_≠0 then Qd0 a.at_ b.at_ else if Qd7 a.src b.src≠0 then Qd7 a.src b.src else Qd0 a.num b.num
theorem Qad:Swo Qx where
 asymm x y h:=by
  rw[← Bool.not_eq_true];intro k;rw[Qfi] at h k;rcases h with h | ⟨h1,h | ⟨h2,h3⟩⟩ <;> rcases k with k | ⟨k1,k | ⟨k2,k3⟩⟩ <;> try omega
  · rw[Qcv h] at k;cases k
  · rw[k2,Xj] at h;cases h
  · rw[h2,Xj] at k;cases k
 trans x y z h k:=by
  rw[← Bool.not_eq_true] at h k ⊢;intro hh;rw[Qfi] at hh;rw[Qfi] at h k;have h1:x.at_≤y.at_:=by omega
  have k1:y.at_≤z.at_:=by omega
  rcases hh with hh | ⟨e,hh⟩
  · omega
  · have e1:y.at_=x.at_:=by omega
    have e2:z.at_=y.at_:=by omega
    have h2:¬ (bLt y.src x.src=true∨(y.src=x.src∧y.num<x.num)):=fun q=>h (.inr ⟨e1,q⟩)
    have k2:¬ (bLt z.src y.src=true∨(z.src=y.src∧z.num<y.num)):=fun q=>k (.inr ⟨e2,q⟩)
    by_cases p1:bLt x.src y.src=true
    · by_cases p2:bLt y.src z.src=true
      · have p3:=Qa2 p1 p2
        rcases hh with q | ⟨q,_⟩
        · rw[Qcv p3] at q;cases q
        · rw[q,Xj] at p3;cases p3
      · have p3:y.src=z.src:=Qa9 (by simpa using p2) (by simpa using fun q=>k2 (.inl q))
        rw[p3] at p1;rcases hh with q | ⟨q,_⟩
        · rw[Qcv p1] at q;cases q
        · rw[q,Xj] at p1;cases p1
    · have p3:x.src=y.src:=Qa9 (by simpa using p1) (by simpa using fun q=>h2 (.inl q))
      rw[p3] at hh h2;rcases hh with q | ⟨q,q2⟩
      · exact k2 (.inl q)
      · have:¬ y.num<x.num:=fun r=>h2 (.inr ⟨rfl,r⟩)
        have:¬ z.num<y.num:=fun r=>k2 (.inr ⟨q,r⟩)
        omega
theorem Qey {x y:Ev} (h:Qx x y=false) (k:Qx y x=false):x.at_=y.at_∧x.src=y.src∧x.num=y.num:=by
 rw[← Bool.not_eq_true,Qfi] at h k;have e:x.at_=y.at_:=by omega
 have h1:¬ bLt x.src y.src=true:=fun q=>h (.inr ⟨e,.inl q⟩)
 have k1:¬ bLt y.src x.src=true:=fun q=>k (.inr ⟨e.symm,.inl q⟩)
 have e2:x.src=y.src:=Qa9 (by simpa using h1) (by simpa using k1);have h2:¬ x.num<y.num:=fun q=>h (.inr ⟨e,.inr ⟨e2,q⟩⟩)
 have k2:¬ y.num<x.num:=fun q=>k (.inr ⟨e.symm,.inr ⟨e2.symm,q⟩⟩)
 exact⟨e,e2,by omega⟩
theorem Q7a {a b:ByteArray}:Qd7 a b<0↔bLt a b=true:=by
 unfold Qd7
 split
 · rename_i h;simp[h]
 · rename_i h;split <;> simp[h]
theorem Qxa {a b:Int}:Qd0 a b<0↔a<b:=by unfold Qd0;split <;> (try split) <;> omega
theorem Qbx (a b:Ev):decide (Qfz a b<0)=Qx a b:=by
 rw[Bool.eq_iff_iff,decide_eq_true_eq,Qfi];unfold Qfz
 by_cases h:Qd0 a.at_ b.at_=0
 · have e:=Qdq.1 h
   rw[if_neg (by simpa using h)]
   by_cases k:Qd7 a.src b.src=0
   · have e2:=Qds.1 k
     rw[if_neg (by simpa using k),Qxa]
     simp[e,e2,Xj]
   · have e2:a.src≠b.src:=fun q=>k (Qds.2 q)
     rw[if_pos k,Q7a]
     simp[e,e2]
 · have e:a.at_≠b.at_:=fun q=>h (Qdq.2 q)
   rw[if_pos h,Qxa]
   simp[e]
theorem Qhy (a b:Ev):Qfz a b=0↔a.at_=b.at_∧a.src=b.src∧a.num=b.num:=by
 unfold Qfz
 by_cases h:Qd0 a.at_ b.at_=0
 · have e:=Qdq.1 h
   rw[if_neg (by simpa using h)]
   by_cases k:Qd7 a.src b.src=0
   · have e2:=Qds.1 k
     rw[if_neg (by simpa using k),Qdq]
     simp[e,e2]
   · have e2:a.src≠b.src:=fun q=>k (Qds.2 q)
     rw[if_pos k]
     simp[e2,k]
 · have e:a.at_≠b.at_:=fun q=>h (Qdq.2 q)
   rw[if_pos h]
   simp[e,h]
end Go.Proofs.YtohkipkjleldpaaGreatDoor
