import Derived.Maps.AppendAt
import Derived.Deep.AppendLies
import Derived.Laws.CopyRow
import Derived.Maps.RangeRun
import Derived.WideKeyRuns
import Derived.Lib.ItoaNum
import Derived.Lib.ItoaLen
import Derived.Lib.ItoaMem
import Derived.Laws.IdiomStrings
import Derived.Lib.Bytealg
import Derived.Test.YtpdonaienhociaaGreatDoorHTab
set_option linter.all false
namespace Go.Proofs.YtpdonaienhociaaGreatDoor
open Go.Se
theorem int_eq {k:IntKind} {b c:Int} (h:b=c):some (Value.int k b)=some (Value.int k c):=by rw[h]
theorem wrap_i64 {z:Int} (h:-9223372036854775808<=z/\z<=9223372036854775807):z=IntKind.i64.wrap z:=by
 simp only[IntKind.wrap,IntKind.bits,IntKind.signed];simp;split <;> omega
theorem Qa5 {k n:Nat} (h:k+n<=9223372036854775807):((k+n:Nat):Int)=IntKind.i64.wrap ((k:Int)+(n:Int)):=by
 rw[<- wrap_i64 ⟨Om,Om⟩];omega
theorem wrap_succ {k:Nat} (h:k<9223372036854775807):((k+1:Nat):Int)=IntKind.i64.wrap ((k:Int)+1):=by
 rw[<- wrap_i64 ⟨Om,Om⟩];omega
theorem wrap_u64 {z:Int} (h:0<=z/\z<=18446744073709551615):z=IntKind.u64.wrap z:=by
 simp only[IntKind.wrap,IntKind.bits,IntKind.signed];simp;omega
theorem Qs {w:World} {a:Addr} {v:Value} {l:List Value} (h:Xp w a (v :: l)):w.cell? a=some v:=by
 have:=h 0 v rfl;simpa [Addr.add] using this
theorem cells_at {w:World} {a:Addr} {l:List Value} (h:Xp w a l) {k:Nat} {v:Value} (hk:nth l k=some v):w.cell? (a.add k)=some v:=h k v (by rw[<- Qa1,hk])
def Sl {α:Type} (enc:α->List Value) (sz:Nat) (w:World) (A:Option Addr) (l:List α):Prop :=
 ∀ i x,l[i]? = some x->∃ a,A=some a/\Xp w (a.add (i*sz)) (enc x)
section
variable {α:Type} {enc:α->List Value} {sz:Nat} {w w':World} {A:Option Addr} {l:List α}
theorem Sl.nil:Sl enc sz w A []:=fun i x h=>by simp at h
theorem Sl.ext (h:Sl enc sz w A l) (hx:Ext w w'):Sl enc sz w' A l:=fun i x hi=>by
 obtain⟨a,ha,hc⟩:=h i x hi;exact⟨a,ha,hx.cells hc⟩
theorem Sl.get (h:Sl enc sz w A l) {k:Nat} (hk:k<l.length):∃ a,A=some a/\Xp w (a.add (k*sz)) (enc l[k]) :=
 h k l[k] (Zd hk)
end
@[ext] structure Ev where
  src:Bj
  num:Int
  at_:Int
  kind:Int
  person:Bj
  item:Bj
  val:Int
  text:Bj
deriving DecidableEq
def evC (e:Ev):List Value := [.string e.src,Vj e.num,Vj e.at_,Vj e.kind,.string e.person,.string e.item,Vj e.val,.string e.text]
def evV (e:Ev):Value := .agg (evC e).toArray
abbrev SlE:=Sl evC 8
end Go.Proofs.YtpdonaienhociaaGreatDoor
namespace Go.Proofs.YtpdonaienhociaaGreatDoor
open Go.Se Go.RowKit
def Own {α:Type} (enc:α->List Value) (sz:Nat) (te:TypeId) (base:Nat) (w:World) (A:Option Addr) (c:Nat) (l:List α):Prop :=
 w.ownsRow base te sz (.slice A l.length c) l.length (l.flatMap enc)
section
variable {α:Type} {enc:α->List Value} {sz:Nat} {te:TypeId} {base:Nat} {w w':World} {A:Option Addr} {c:Nat} {l:List α}
theorem flat_get (hsz:∀ x,(enc x).length=sz):∀ (l:List α) (i j:Nat) (x:α),l[i]? = some x->j<sz->(l.flatMap enc)[i*sz+j]? = (enc x)[j]?
 | [],i,j,x,h,_=>by simp at h
 | y :: l,0,j,x,h,hj=>by
   obtain rfl:y=x:=Su h;rw[Zat,Zz (by rw[hsz];omega)];simp
 | y :: l,i+1,j,x,h,hj=>by
   rw[Zat,Z5 (by rw[hsz,Zbv];omega),hsz];rw[show (i+1)*sz+j-sz=i*sz+j by rw[Zbv];omega];exact flat_get hsz l i j x (Su h) hj
theorem Qgg (hsz:∀ x,(enc x).length=sz):∀ l:List α,(l.flatMap enc).length=l.length*sz
 | []=>by simp
 | y :: l=>by rw[Zat,Zo,hsz,Qgg hsz l,Z8,Zbv];omega
theorem Own.sl (hsz:∀ x,(enc x).length=sz) (h:Own enc sz te base w A c l):Sl enc sz w A l:=by
 intro i x hi;have hlt:i<l.length:=(Zi.1 hi).1;rcases h.2 with⟨hv,h0⟩ | ⟨g,cap,cur,hv,hb,hg,h1,h2,h3,h4⟩
 . omega
 . have hA:A=some ⟨g,0,none⟩:=by injection hv
   refine⟨_,hA,fun j v hj => ?_⟩;have hjl:j<sz:=by rw[<- hsz x];exact(Zi.1 hj).1
   rw[Xf];exact h.cells (g:=g) (by rw[hA];rfl) _ _ (by rw[flat_get hsz l i j x hi hjl];exact hj)
theorem Own.le (h:Own enc sz te base w A c l):l.length<=c:=by
 rcases h.2 with⟨hv,h0⟩ | ⟨g,cap,cur,hv,hb,hg,h1,h2,h3,h4⟩
 . omega
 . injection hv with _ _ hc;omega
theorem Own.nil:Own enc sz te base w none 0 []:=⟨by simp,.inl ⟨rfl,rfl⟩⟩
theorem Own.made {w1:World} {b:Nat} (h:New w w1 b (.cells ([]:List Value).toArray te)) (hb:base<=w.heap.size):Own enc sz te base w1 (some ⟨b,0,none⟩) 0 []:=by
 refine⟨by simp,.inr ⟨b,0,#[],rfl,by rw[h.block];exact hb,h.at_,by simp,by simp[maxLen],by simp,by simp⟩⟩
theorem Own.block (h:Own enc sz te base w A c l) {a:Addr} (hA:A=some a):base<=a.block/\a.block<w.heap.size:=h.lt a.block (by rw[hA];rfl)
theorem Own.keep (h:Own enc sz te base w A c l) (hk:∀ a,A=some a->w'.heap[a.block]? = w.heap[a.block]?):Own enc sz te base w' A c l:=by
 refine⟨h.1,?_⟩;rcases h.2 with⟨hv,h0⟩ | ⟨g,cap,cur,hv,hb,hg,h1⟩
 . exact .inl ⟨hv,h0⟩
 . refine .inr ⟨g,cap,cur,hv,hb,?_,h1⟩;have hA:A=some ⟨g,0,none⟩:=by injection hv
   rw[hk _ hA];exact hg
theorem Own.ext (h:Own enc sz te base w A c l) (hx:Ext w w'):Own enc sz te base w' A c l :=
 h.keep fun a ha=>hx.block _ (h.block ha).2
theorem Qu {w0:World} {row:Option Nat} (h:Ext w0 w) (hg:w.grownBy w' row) (hr:∀ k,row=some k->w0.heap.size<=k):Ext w0 w':=by
 unfold Ext at h ⊢;exact h.grown hg h.size hr
theorem Qk3 {P:Program} (t ty e:TypeId) (i:TypeInfo) (size:Nat) (ht:P.underlying t=some (.slice e)) (hi:P.info? e=some i)
 (v:Value) (n:Nat) (xs:List Value) (hown:w.ownsRow base e size v n xs) (c:Nat):(Builtin.append_ #[t,t] ty #[v,.slice none 0 c]).run P w = .ok v w:=by
 rcases hown.2 with⟨rfl,rfl⟩ | ⟨g,cap,cur,rfl,_,_,hnc,_⟩
 . simp[Builtin.append_,run_underlying ht,sizeOf,typeInfo,hi,Builtin.lenOf,Builtin.firstCells]
 . simp[Builtin.append_,run_underlying ht,sizeOf,typeInfo,hi,Builtin.lenOf,Builtin.firstCells,hnc,storeCells]
theorem Qd7 {P:Program} {t ty:TypeId} {bytes:Nat} {ety:TyE} (htt:Xe P te=some ety) (hsh:P.underlying t=some (.slice te)) (hby:(P.info? te).map (·.bytes)=some bytes) (hsize:ety.size=sz) (hzs:(Qg ety.zero).length=sz) (hsz0:0<sz)
 (hsz:∀ x,(enc x).length=sz) (hone:∀ x,∀ u∈enc x,u.oneCell'=true) {R:Value->World->Prop}
 (hown:Own enc sz te base w A c l) {B:Option Addr} {cB:Nat} {news:List α} (hs:Sl enc sz w B news)
 (hbytes:(l.length+news.length)*bytes<=140737488355328) (hlen:l.length+news.length<=9223372036854775807) (hbase:base<=w.heap.size)
 (h:∀ A' c' w',Own enc sz te base w' A' c' (l++news)->w.grownBy w' (A.map (·.block))->(A'=A\/A'.map (·.block)=A.map (·.block)\/A'.map (·.block)=some w.heap.size)->R (.slice A' (l++news).length c') w') :
 Qkj P (Builtin.append_ #[t,t] ty [.slice A l.length c,.slice B news.length cB].toArray) w R:=by
 obtain⟨i,_,hi,_,hz,_,hs1,_⟩:=Xm htt;have hby':i.bytes=bytes:=by rw[hi] at hby;simpa using hby
 have hzc:ety.zero.cells.size=sz:=by rw[<- hzs,<- Qan];simp
 have hob:(Value.slice A l.length c).ownBlock=A.map (·.block):=by cases A <;> rfl
 by_cases hn0:news = []
 . subst hn0
   cases B with
   | none =>
     refine⟨_,_,Qk3 t ty te i sz hsh hi _ _ _ hown cB,?_⟩;have:=h A c w (Su hown) (World.grownBy.refl w _) (.inl rfl);simpa using this
   | some b =>
     obtain⟨v',w',hr,h2,h3,h4,h5⟩:=run_append_own_at (P:=P) w base t ty te i ety.zero sz bytes hsh hi hz (hs1.trans hsize) hby' hzc hsz0 _ _ _ hown b 0 cB [] (by simp) (by simp) (by simp) (by unfold maxLen;simpa using hlen) (Su hbytes) hbase
     have hv':∃ A' c',v' = .slice A' l.length c':=by
      rcases h2.2 with⟨hv,h0⟩ | ⟨g,cap,cur,hv,_⟩
      . exact⟨none,0,by rw[hv];congr 1;omega⟩
      . exact⟨_,_,Su hv⟩
     obtain⟨A',c',rfl⟩:=hv';refine⟨_,_,hr,?_⟩;have hob':(Value.slice A' l.length c').ownBlock=A'.map (·.block):=by cases A' <;> rfl
     rw[hob,hob'] at h5;have:=h A' c' w' (by simpa [Own] using h2) (by rw[<- hob];exact h3) (.inr h5);simpa using this
 . obtain⟨b,hB⟩:∃ b,B=some b:=(by obtain⟨x,xs,rfl⟩:=Zcl hn0;obtain⟨a,ha,_⟩:=hs 0 x rfl;exact⟨a,ha⟩);subst hB
   have hnews:∀ j u,(news.flatMap enc)[j]? = some u->w.cell? (b.add j)=some u:=by
    intro j u hj;have hjl:j<news.length*sz:=by rw[<- Qgg hsz];exact(Zi.1 hj).1
    have hdiv:j/sz<news.length:=by rw[Nat.div_lt_iff_lt_mul hsz0];exact hjl
    have hmod:j % sz<sz:=Nat.mod_lt _ hsz0;have hj':j=j/sz*sz+j % sz:=by rw[Nat.mul_comm];exact(Nat.div_add_mod j sz).symm
    obtain⟨a,ha,hc⟩:=hs (j/sz) news[j/sz] (Zd hdiv);obtain rfl:b=a:=Su ha
    have e1:(news.flatMap enc)[j]? = (enc news[j/sz])[j % sz]? := by
     conv=>lhs;rw[hj']
     exact flat_get hsz news (j/sz) (j % sz) news[j/sz] (Zd hdiv) hmod
    rw[e1] at hj;have:=hc (j % sz) u hj;rw[Xf,<- hj'] at this;exact this
   obtain⟨v',w',hr,h2,h3,h4,h5⟩:=run_append_own_at (P:=P) w base t ty te i ety.zero sz bytes hsh hi hz (hs1.trans hsize) hby' hzc hsz0 _ _ _ hown b news.length cB (news.flatMap enc) (Qgg hsz _) hnews
    (fun u hu=>by obtain⟨x,_,hx⟩:=Zbb.1 hu;exact hone x u hx) (by unfold maxLen;exact hlen) hbytes hbase
   have hv':∃ A' c',v' = .slice A' (l++news).length c':=by
    rcases h2.2 with⟨hv,h0⟩ | ⟨g,cap,cur,hv,_⟩
    . exact⟨none,0,by rw[hv];congr 1;simp;omega⟩
    . exact⟨_,_,Su hv⟩
   obtain⟨A',c',rfl⟩:=hv';refine⟨_,_,hr,?_⟩;have hob':(Value.slice A' (l++news).length c').ownBlock=A'.map (·.block):=by cases A' <;> rfl
   rw[hob,hob'] at h5;exact h A' c' w' (by simpa [Own] using h2) (by rw[<- hob];exact h3) (.inr h5)
end
theorem Qag (e:Ev):(evC e).length=8:=rfl
theorem Qbg (e:Ev):∀ u∈evC e,u.oneCell'=true:=by simp[evC,Value.oneCell']
structure Only (w w':World) (b:Nat):Prop where
 os:w'.os=w.os
 tape:w'.tape=w.tape
 output:w'.output=w.output
 size:w'.heap.size=w.heap.size
 block:∀ i,i≠b->w'.heap[i]? = w.heap[i]?
theorem Only.mod {w w':World} {b:Nat} (h:Only w w' b):Mod (fun k=>k=b) w w':=⟨h.os,h.tape,h.output,by rw[h.size];exact Zg _,fun i _ hn=>h.block i hn⟩
theorem Only.ext {w0 w w':World} {b:Nat} (h:Only w w' b) (hx:Ext w0 w) (hb:w0.heap.size<=b):Ext w0 w' :=
 ⟨h.os.trans hx.os,h.tape.trans hx.tape,h.output.trans hx.output,by rw[h.size];exact hx.size,fun i hi=>(h.block i Om).trans (hx.block i hi)⟩
theorem Only.cells {w w':World} {b:Nat} (h:Only w w' b) {a:Addr} {cs:List Value} (hc:Xp w a cs) (hb:a.block≠b):Xp w' a cs:=fun j v hj=>by
 rw[World.cell?_of_block (w:=w) (h.block _ (by rw[add_block];exact hb))];exact hc j v hj
theorem Only.at_ {w w':World} {b:Nat} (h:Only w w' b) {g t:Nat} {l:List Value} (hc:At w g t l) (hb:g≠b):At w' g t l:=(h.block g hb).trans hc
theorem Only.sl {α:Type} {enc:α->List Value} {sz:Nat} {w w':World} {b:Nat} (h:Only w w' b) {A:Option Addr} {l:List α} (hs:Sl enc sz w A l) (hb:∀ a,A=some a->a.block≠b):Sl enc sz w' A l:=fun i x hi=>by
 obtain⟨a,ha,hc⟩:=hs i x hi;exact⟨a,ha,h.cells hc (by rw[add_block];exact hb a ha)⟩
def spl (l:List Value) (off:Nat) (cs:List Value):List Value:=l.take off++cs++l.drop (off+cs.length)
theorem Qol (w:World) (b:Nat) (cs:Array Value):Only w (w.setRow b cs) b :=
 ⟨rfl,rfl,rfl,by simp[World.setRow],fun i hi=>by simp[World.setRow,Zb7,Ne.symm hi]⟩
theorem Qh2 {P:Program} {T:Tab} (hT:Qbe P T) {t:TypeId} {e:TyE} (ht:Qif T t=some e) {w:World} {R:Value->World->Prop} {b tb off:Nat} {l:List Value} {v:Value}
 (h:At w b tb l) (hn:(Qg v).length=e.size) (hle:off+e.size<=l.length) (hone:∀ u∈Qg v,u.oneCell'=true)
 (hk:∀ w',At w' b tb (spl l off (Qg v))->Only w w' b->R undef w'):Qxc P (Instr.storeAt t (.pointer (some ⟨b,off,none⟩)) v) w R:=by
 have hst:=run_storeCells_at P b off tb (Qg v) 0 l.toArray w h (by simp;omega) hone;have hvs:v.cells.size=e.size:=by rw[<- hn,<- Qan];simp
 refine⟨w.setRow b (spl l off (Qg v)).toArray,?_,hk _ ?_ (Qol w b _)⟩
 . simp[Instr.storeAt,Instr.sureAddr,storeVar,Qkf (hT.get ht),hvs,Qan];simpa [spl] using hst
 . have:=setRow_heap w b l.toArray (spl l off (Qg v)).toArray tb (0,0) h;simpa [At,spl] using this
theorem Qak {α:Type} {enc:α->List Value} {sz:Nat} (hsz:∀ x,(enc x).length=sz) {w w1:World} {b t:Nat} {l:List α} (h:New w w1 b (.cells (l.flatMap enc).toArray t)):Sl enc sz w1 (some ⟨b,0,none⟩) l:=by
 intro i x hi;refine⟨_,rfl,fun j v hj => ?_⟩;have hjl:j<sz:=by rw[<- hsz x];exact(Zi.1 hj).1
 rw[Xf,Q8,h.At.cell,flat_get hsz l i j x hi hjl,hj]
section
variable {α:Type} {enc:α->List Value} {sz:Nat} {te:TypeId} {base:Nat} {w w':World} {A:Option Addr} {c:Nat} {l:List α}
theorem Qnw (hsz:∀ x,(enc x).length=sz):∀ (l:List α) (k:Nat),(l.take k).flatMap enc=(l.flatMap enc).take (k*sz)
 | [],k=>by simp
 | y :: l,0=>by simp
 | y :: l,k+1=>by
   rw[List.take_succ_cons,Zat,Zat,Qnw hsz l k,List.take_append,hsz,Zbv];rw[Zb (l:=enc y) (by rw[hsz];omega),Nat.add_sub_cancel]
theorem Qnv (hsz:∀ x,(enc x).length=sz):∀ (l:List α) (k:Nat),(l.drop k).flatMap enc=(l.flatMap enc).drop (k*sz)
 | [],k=>by simp
 | y :: l,0=>by simp
 | y :: l,k+1=>by
   rw[List.drop_succ_cons,Zat,Qnv hsz l k,List.drop_append,hsz,Zbv];rw[List.drop_eq_nil_of_le («as» := enc y) (by rw[hsz];omega),Zan,Nat.add_sub_cancel]
theorem Q0s (hsz:∀ x,(enc x).length=sz) {k:Nat} (hk:k<l.length) (x:α):(l.set k x).flatMap enc=spl (l.flatMap enc) (k*sz) (enc x):=by
 rw[List.set_eq_take_append_cons_drop,if_pos hk,Zbr,Zat,Qnw hsz,Qnv hsz];unfold spl;rw[hsz,Zbv,Zaa]
theorem Qpa {P:Program} {T:Tab} (hT:Qbe P T) {t:TypeId} {e:TyE} (ht:Qif T t=some e) (he:e.size=sz) (hsz:∀ x,(enc x).length=sz) (hone:∀ x,∀ u∈enc x,u.oneCell'=true)
 {k:Nat} (hk:k<l.length) (x:α) {v:Value} (hv:Qg v=enc x) {a:Addr} (hown:Own enc sz te base w (some a) c l) {R:Value->World->Prop}
 (h:∀ w',Own enc sz te base w' (some a) c (l.set k x)->Only w w' a.block->R undef w'):Qxc P (Instr.storeAt t (.pointer (some (a.add (k*sz)))) v) w R:=by
 have hl:=hown.1;rcases hown.2 with⟨hv',h0⟩ | ⟨g,cap,cur,hv',hb,hg,h1,h2,h3,h4⟩
 . omega
 . have hA:a=⟨g,0,none⟩:=by injection hv' with h _ _;injection h
   have hc:c=cap:=by injection hv'
   subst hA hc;rw[Q8];have hle:k*sz+sz<=l.length*sz:=(by have:=Zb1 sz (show k+1<=l.length from hk);rw[Zbv] at this;exact this);have hle2:l.length*sz<=c*sz:=Zb1 sz h1;have hat:At w g te cur.toList:=by unfold At;rw[hg]
   refine Qh2 hT ht hat (by rw[hv,hsz,he]) (by rw[he];simp;omega) (by rw[hv];exact hone x) fun w1 hw1 hon=>h w1 ?_ hon
   rw[hv] at hw1;refine⟨by rw[Qgg hsz],.inr ⟨g,c,_,by rw[Zbq],hb,hw1,by rw[Zbq];exact h1,h2,?_,?_⟩⟩
   . unfold spl;simp[hsz];omega
   . rw[Q0s hsz hk,<- h4,Zbq];unfold spl;simp only[hsz,List.toList_toArray];rw[List.take_append,List.take_append,List.drop_take,List.take_take,List.take_take];rw[Zo,Zn,hsz];have e1:min (k*sz) cur.toList.length=k*sz:=by simp;omega
     rw[e1,Nat.min_eq_right Om,Nat.min_eq_left Om,Zb (l:=enc x) (by rw[hsz];omega)]
end
end Go.Proofs.YtpdonaienhociaaGreatDoor
namespace Go.Proofs.YtpdonaienhociaaGreatDoor
section
variable {α:Type} {lt:α->α->Bool}
structure Swo (lt:α->α->Bool):Prop where
 asymm:∀ x y,lt x y=true->lt y x=false
 trans:∀ x y z,lt y x=false->lt z y=false->lt z x=false
def Srt (lt:α->α->Bool) (l:List α):Prop:=l.Pairwise (fun x y=>lt y x=false)
theorem Swo.irrefl (h:Swo lt) (x:α):lt x x=false:=by
 cases hx:lt x x with
 | false=>rfl
 | true=>rw[h.asymm x x hx] at hx;cases hx
theorem Srt.nil:Srt lt ([]:List α):=List.Pairwise.nil
theorem Srt.one (x:α):Srt lt [x]:=by simp[Srt]
theorem Srt.append {x y:List α} (hx:Srt lt x) (hy:Srt lt y) (h:∀ u∈x,∀ v∈y,lt v u=false):Srt lt (x++y):=Z4.2 ⟨hx,hy,h⟩
theorem Srt.left {x y:List α} (h:Srt lt (x++y)):Srt lt x:=(Z4.1 h).1
theorem Srt.right {x y:List α} (h:Srt lt (x++y)):Srt lt y:=(Z4.1 h).2.1
theorem Srt.across {x y:List α} (h:Srt lt (x++y)):∀ u∈x,∀ v∈y,lt v u=false:=(Z4.1 h).2.2
theorem Qsf (O:Swo lt) {x y:List α} (hx:Srt lt x) (hy:Srt lt y) (h:∀ u v,x.getLast? = some u->y.head? = some v->lt v u=false):∀ u∈x,∀ v∈y,lt v u=false:=by
 intro u hu v hv
 obtain⟨x',l,rfl⟩:∃ x' l,x=x' ++ [l]:=by
  rcases Zbj x with rfl | ⟨x',l,hh⟩
  . simp at hu
  . exact⟨x',l,Su hh⟩
 cases y with
 | nil=>simp at hv
 | cons f y' =>
   have h1:lt f l=false:=h l f (by simp) (by simp)
   have h2:lt l u=false:=by
    rcases Zj.1 hu with hu | hu
    . exact hx.across u hu l (by simp)
    . simp at hu;subst hu;exact O.irrefl _
   have h3:lt v f=false:=by
    rcases Zr.1 hv with rfl | hv
    . exact O.irrefl _
    . exact(Z9.1 hy).1 v hv
   exact O.trans u l v h2 (O.trans l f v h1 h3)
theorem Qwm (O:Swo lt) {x1 x2 y1 y2 z1 z2:List α} (hx:Srt lt (x1++x2)) (hy:Srt lt (y1++y2))
 (h1:∀ u v,x1.getLast? = some u->y2.head? = some v->lt v u=false) (h2:∀ u v,y1.getLast? = some u->x2.head? = some v->lt v u=false)
 (p1:z1.Perm (x1++y1)) (p2:z2.Perm (x2++y2)) (s1:Srt lt z1) (s2:Srt lt z2):Srt lt (z1++z2)/\(z1++z2).Perm ((x1++x2)++(y1++y2)):=by
 constructor
 . refine s1.append s2 fun u hu v hv => ?_
   have hu:=p1.mem_iff.1 hu;have hv:=p2.mem_iff.1 hv;rcases Zj.1 hu with hu | hu <;> rcases Zj.1 hv with hv | hv
   . exact hx.across u hu v hv
   . exact Qsf O hx.left hy.right h1 u hu v hv
   . exact Qsf O hy.left hx.right h2 u hu v hv
   . exact hy.across u hu v hv
 . refine(p1.append p2).trans ?_;rw[Zaa,Zaa];refine Zct x1 ?_;rw[<- Zaa,<- Zaa];exact List.Perm.append_right y2 List.perm_append_comm
theorem Qk8 {l l':List α} (hp:l.Perm l') (hs:Srt lt l) (hs':Srt lt l') (ht:∀ x∈l,∀ y∈l,lt x y=false->lt y x=false->x=y):l=l' :=
 List.Perm.eq_of_pairwise (fun x y hx hy h1 h2=>ht x hx y (hp.mem_iff.2 hy) h2 h1) hs hs' hp
end
end Go.Proofs.YtpdonaienhociaaGreatDoor
namespace Go.Proofs.YtpdonaienhociaaGreatDoor
open Go.Se Go.RowKit
open Go.ChangeMaps (setBlock)
open Go.MapKept (run_checkKey run_findKey IsKey bytes_beq)
theorem Qdd {P:Program} {w:World} {r:Nat} {es:Array MapEntry} {clock:Nat} (hb:w.heap[r]? = some (.map es clock)):(getObj r).run P w = .ok (.map es clock) w:=Go.MapKept.run_getObj_map hb
theorem Qgj {P:Program} {w:World} {r:Nat} {es:Array MapEntry} {clock:Nat} (o:Obj) (hb:w.heap[r]? = some (.map es clock)):(setObj r o).run P w = .ok () { w with heap:=w.heap.setIfInBounds r o }:=Go.MapKept.run_setObj_map o hb
theorem Qah (w:World) (b:Nat) (o:Obj):Only w (setBlock w b o) b :=
 ⟨rfl,rfl,rfl,by simp[setBlock],fun i hi=>by simp[setBlock,Ne.symm hi]⟩
section
variable {κ:Type} [DecidableEq κ] {β:Type}
def Qe:List (κ×β)->κ->Option β
 | [],_=>none
 | x :: l,k=>if k=x.1 then some x.2 else Qe l k
def Xc:List (κ×β)->κ->β->List (κ×β)
 | [],k,v => [(k,v)]
 | x :: l,k,v=>if k=x.1 then(x.1,v) :: l else x :: Xc l k v
theorem Xn (k k':κ) (v:β):∀ l:List (κ×β),Qe (Xc l k v) k'=if k'=k then some v else Qe l k'
 | []=>by simp[Xc,Qe]
 | x :: l=>by
   simp only[Xc]
   by_cases h:k=x.1
   . subst h;simp only[if_true,Qe];split <;> rfl
   . simp only[if_neg h,Qe,Xn k k' v l]
     by_cases h2:k'=x.1
     . subst h2;simp[Ne.symm h]
     . simp[h2]
theorem Q9 (k:κ) (v:β) (l:List (κ×β)):Qe (Xc l k v) k=some v:=by rw[Xn,if_pos rfl]
theorem Qdf (k:κ) (v v':β):∀ l:List (κ×β),Xc (Xc l k v) k v'=Xc l k v'
 | []=>by simp[Xc]
 | x :: l=>by
   simp only[Xc]
   by_cases h:k=x.1
   . simp[h,Xc]
   . simp[h,Xc,Qdf k v v' l]
theorem Qd6 {k:κ}:∀ {l:List (κ×β)},Qe l k=none↔∀ x∈l,x.1≠k
 | []=>by simp[Qe]
 | x :: l=>by
   simp only[Qe]
   by_cases h:k=x.1
   . simp[h]
   . simp only[if_neg h,Qd6 (l:=l),Zr,forall_eq_or_imp];exact⟨fun hh=>⟨fun e=>h e.symm,hh⟩,fun hh=>hh.2⟩
theorem Qbi {k:κ} {v:β}:∀ {l:List (κ×β)},Qe l k=some v->(k,v)∈l
 | [],h=>by simp[Qe] at h
 | x :: l,h=>by
   simp only[Qe] at h
   by_cases e:k=x.1
   . rw[if_pos e] at h;obtain rfl:x.2=v:=Su h;rw[e];simp
   . rw[if_neg e] at h;exact List.mem_cons_of_mem _ (Qbi h)
theorem Qdk {k:κ} {v:β}:∀ {l:List (κ×β)},l.Pairwise (fun x y=>x.1≠y.1)->(k,v)∈l->Qe l k=some v
 | [],_,h=>by simp at h
 | x :: l,hp,h=>by
   rw[Z9] at hp;simp only[Qe];rcases Zr.1 h with rfl | h
   . simp
   . rw[if_neg (fun e=>hp.1 _ h e.symm)];exact Qdk hp.2 h
theorem Qbp {k:κ} {v:β} {y:κ×β}:∀ {l:List (κ×β)},y∈Xc l k v->y=(k,v)\/(y∈l)
 | [],h=>by simpa [Xc] using h
 | x :: l,h=>by
   simp only[Xc] at h
   by_cases e:k=x.1
   . rw[if_pos e] at h;rcases Zr.1 h with rfl | h
     . exact .inl (by rw[e])
     . exact .inr (by simp[h])
   . rw[if_neg e] at h;rcases Zr.1 h with rfl | h
     . exact .inr (by simp)
     . rcases Qbp h with h | h
       . exact .inl h
       . exact .inr (by simp[h])
theorem Qed (k:κ) (v:β):∀ l:List (κ×β),(Xc l k v).map (·.1)=if k∈l.map (·.1) then l.map (·.1) else l.map (·.1) ++ [k]
 | []=>by simp[Xc]
 | x :: l=>by
   simp only[Xc]
   by_cases e:k=x.1
   . simp[e]
   . rw[if_neg e,Zm,Qed k v l]
     by_cases h:k∈l.map (·.1)
     . simp only[if_pos h,Zm,Zr];rw[if_pos (.inr h)]
     . simp only[if_neg h,Zm,Zr];rw[if_neg (by rintro (h1 | h1);exact e h1;exact h h1)];rfl
theorem Qaf {k:κ} {v:β} {l:List (κ×β)} (hp:l.Pairwise (fun x y=>x.1≠y.1)):(Xc l k v).Pairwise (fun x y=>x.1≠y.1):=by
 have h1:(l.map (·.1)).Nodup:=by rw[Zae,Z7];exact hp
 have:((Xc l k v).map (·.1)).Nodup:=by
  rw[Qed];split
  . exact h1
  . rename_i h;rw[Zcy];exact⟨h1,by simp,fun a ha b hb=>by simp at hb;subst hb;intro e;exact h (e ▸ ha)⟩
 rw[Zae,Z7] at this;exact this
end
abbrev Ent (κ:Type):=κ×Value×Nat
section
variable {κ:Type} {enc:κ->Value} {P:Program} {mt kt et:TypeId} {w w':World} {b:Nat} {L:List (κ×Value)} {E:List (Ent κ)} {clock:Nat}
def strip (E:List (Ent κ)):List (κ×Value):=E.map fun x=>(x.1,x.2.1)
def mkE (enc:κ->Value) (x:Ent κ):MapEntry:=⟨enc x.1,x.2.1,x.2.2⟩
structure Xbn (w:World) (b:Nat) (enc:κ->Value) (E:List (Ent κ)) (clock:Nat):Prop where
 block:w.heap[b]? = some (.map (E.map (mkE enc)).toArray clock)
 rising:E.Pairwise (fun x y=>x.2.2<y.2.2)
 below:∀ x∈E,x.2.2<clock
 keys:E.Pairwise (fun x y=>x.1≠y.1)
def MapAt (w:World) (b:Nat) (enc:κ->Value) (L:List (κ×Value)):Prop:=∃ E clock,Xbn w b enc E clock/\strip E=L
theorem lt_of_block {w:World} {b:Nat} {o:Obj} (h:w.heap[b]? = some o):b<w.heap.size:=by
 rcases Zb5 b w.heap.size with hlt | hge
 . exact hlt
 . rw[Zbp hge] at h;cases h
theorem MapAt.lt (h:MapAt w b enc L):b<w.heap.size:=by
 obtain⟨E,c,hE,_⟩:=h;exact lt_of_block hE.block
theorem MapAt.keep (h:MapAt w b enc L) (hk:w'.heap[b]? = w.heap[b]?):MapAt w' b enc L:=by
 obtain⟨E,c,hE,hs⟩:=h;exact⟨E,c,⟨hk.trans hE.block,hE.rising,hE.below,hE.keys⟩,hs⟩
theorem MapAt.ext (h:MapAt w b enc L) (hx:Ext w w'):MapAt w' b enc L:=h.keep (hx.block b h.lt)
theorem MapAt.only (h:MapAt w b enc L) {c:Nat} (hx:Only w w' c) (hc:b≠c):MapAt w' b enc L:=h.keep (hx.block b hc)
theorem MapAt.mod (h:MapAt w b enc L) {S:Nat->Prop} (hx:Mod S w w') (hc:¬ S b):MapAt w' b enc L:=h.keep (hx.block b h.lt hc)
theorem MapAt.new {w1:World} (h:New w w1 b (.map #[] 0)):MapAt w1 b enc []:=⟨[],0,⟨h.at_,by simp,by simp,by simp⟩,rfl⟩
theorem MapAt.keys (h:MapAt w b enc L):L.Pairwise (fun x y=>x.1≠y.1):=by
 obtain⟨E,c,hE,rfl⟩:=h;unfold strip;rw[Z7];exact hE.keys
def Kept (cl:Cl) (w:World) (b:Nat):Prop:=∀ w',cl.rel w w'->w'.heap[b]? = w.heap[b]?
theorem Qp {w:World} {b:Nat}:Kept .same w b:=fun w' h=>by cases h;rfl
theorem Qhv {w:World} {b:Nat} (h:b<w.heap.size):Kept .ext w b:=fun w' hx=>(show Ext w w' from hx).block b h
theorem Qve {S:Nat->Prop} {w:World} {b:Nat} (h:b<w.heap.size) (hs:¬ S b):Kept (.mods S) w b:=fun w' hx=>(show Mod S w w' from hx).block b h hs
theorem Qaa {w:World} {b:Nat} {o o':Obj} (h:w.heap[b]? = some o):(setBlock w b o').heap[b]? = some o':=by
 simp[setBlock,lt_of_block h]
def Xhh (w:World) (b:Nat) (enc:κ->Value) (L:List (κ×Value)) (k:κ) (s:Nat):Prop:=∃ E clock,Xbn w b enc E clock/\strip E=L/\∃ v,(k,v,s)∈E
theorem Xhh.at_ {k:κ} {s:Nat} (h:Xhh w b enc L k s):MapAt w b enc L:=by
 obtain⟨E,c,hE,hs,_⟩:=h;exact⟨E,c,hE,hs⟩
def Iter (w:World) (r b:Nat) (enc:κ->Value) (L vs:List (κ×Value)):Prop :=
 ∃ E clock V since c0,Xbn w b enc E clock/\strip E=L/\w.heap[r]? = some (.mapIter (some b) since (V.map fun x:Ent κ=>x.2.2).toArray c0)/\(∀ x∈E,x.2.2<since)/\since<=c0/\since<=clock/\strip V=vs/\V.Nodup/\∀ x∈V,x∈E
theorem Iter.map {r:Nat} {vs:List (κ×Value)} (h:Iter w r b enc L vs):MapAt w b enc L:=by
 obtain⟨E,c,V,si,c0,hE,hs,_⟩:=h;exact⟨E,c,hE,hs⟩
theorem Iter.lt {r:Nat} {vs:List (κ×Value)} (h:Iter w r b enc L vs):r<w.heap.size:=by
 obtain⟨E,c,V,si,c0,hE,hs,hr,_⟩:=h;exact lt_of_block hr
theorem Iter.ne {r:Nat} {vs:List (κ×Value)} (h:Iter w r b enc L vs):r≠b:=by
 obtain⟨E,c,V,si,c0,hE,hs,hr,_⟩:=h;rintro rfl;rw[hE.block] at hr;simp at hr
theorem Iter.keep {r:Nat} {vs:List (κ×Value)} (h:Iter w r b enc L vs) (h1:w'.heap[b]? = w.heap[b]?) (h2:w'.heap[r]? = w.heap[r]?):Iter w' r b enc L vs:=by
 obtain⟨E,c,V,si,c0,hE,hs,hr,hh⟩:=h;exact⟨E,c,V,si,c0,⟨h1.trans hE.block,hE.rising,hE.below,hE.keys⟩,hs,h2.trans hr,hh⟩
theorem Iter.ext {r:Nat} {vs:List (κ×Value)} (h:Iter w r b enc L vs) (hx:Ext w w'):Iter w' r b enc L vs:=h.keep (hx.block _ h.map.lt) (hx.block _ h.lt)
theorem Qgm {α:Type}:∀ {V E:List α},V.Nodup->(∀ x∈V,x∈E)->∃ R,E.Perm (V++R)
 | [],E,_,_=>⟨E,Za1 _⟩
 | x :: V,E,hn,hs=>by
   obtain⟨E1,E2,rfl⟩:=List.append_of_mem (hs x (by simp));rw[Zbc] at hn
   obtain⟨R,hR⟩:=Qgm (E:=E1++E2) hn.2 (fun y hy=>by
    have h1:=hs y (by simp[hy]);have hne:y≠x:=fun e=>hn.1 (e ▸ hy)
    simp[hne] at h1 ⊢;exact h1)
   exact⟨R,List.perm_middle.trans (by simpa using hR.cons x)⟩
theorem Qd3 {α:Type} {V E:List α} (hn:V.Nodup) (hs:∀ x∈V,x∈E):V.length<=E.length:=by
 obtain⟨R,hR⟩:=Qgm hn hs;have:=hR.length_eq;simp at this;omega
theorem Qhd {α:Type} {V E:List α} (hn:V.Nodup) (hE:E.Nodup) (hs:∀ x∈V,x∈E) (hs':∀ x∈E,x∈V):V.Perm E:=by
 obtain⟨R,hR⟩:=Qgm hn hs;have h1:=hR.nodup_iff.1 hE
 have:R = []:=by
  rcases R with _ | ⟨y,R⟩
  . rfl
  . have hy:=hs' y (hR.mem_iff.2 (by simp));exact absurd rfl ((Zcy.1 h1).2.2 y hy y (by simp))
 subst this;simpa using hR.symm
theorem Qie {E:List (Ent κ)} (hp:E.Pairwise (fun x y=>x.1≠y.1)) {x y:Ent κ} (hx:x∈E) (hy:y∈E) (h:x.1=y.1):x=y:=by
 induction E with
 | nil=>simp at hx
 | cons z E ih =>
   rw[Z9] at hp;rcases Zr.1 hx with h1 | h1 <;> rcases Zr.1 hy with h2 | h2
   . rw[h1,h2]
   . subst h1;exact absurd h (hp.1 _ h2)
   . subst h2;exact absurd h.symm (hp.1 _ h1)
   . exact ih hp.2 h1 h2
theorem map_range (ht:P.underlying mt=some (.map kt et)) (hm:MapAt w b enc L) {R:Value->World->Prop}
 (h:∀ w',Iter w' w.heap.size b enc L []->Ext w w'->R (Pj w.heap.size) w'):Qkj P (Instr.range mt (.map (some b))) w R:=by
 obtain⟨E,c,hE,rfl⟩:=hm;have hx:Ext w (w.alloc (.mapIter (some b) c #[] c)):=(Below.refl _ _).alloc (Zg _) _;refine⟨_,w.alloc (.mapIter (some b) c #[] c),?_,h _ ?_ hx⟩
 . simp[Instr.range,run_underlying ht,Qdd hE.block]
 . refine⟨E,c,[],c,c,⟨(hx.block b (lt_of_block hE.block)).trans hE.block,hE.rising,hE.below,hE.keys⟩,rfl,heap_alloc_new w _,hE.below,Zg _,Zg _,rfl,by simp,by simp⟩
theorem Qkx {E:List (Ent κ)} {n:Nat} {x y:Ent κ} {f:MapEntry->MapEntry} (h:E[n]? = some x) (hf:f (mkE enc x)=mkE enc y) :
 ((E.map (mkE enc)).toArray.modify n f)=((E.set n y).map (mkE enc)).toArray:=by
 apply Zco;apply Zb3;intro i;simp only[Array.toList_modify,List.getElem?_modify,Zaq,List.getElem?_set]
 by_cases e:n=i
 . subst e;have hlt:n<E.length:=(Zi.1 h).1;have hx:E[n]=x:=by rw[Zd hlt] at h;simpa using h
   simp[hx,hf,hlt]
 . simp[e]
theorem Qk5 {E:List (Ent κ)} {n:Nat} {k:κ} {v v':Value} {s:Nat} (h:E[n]? = some (k,v,s)) (hE:Xbn w b enc E clock) (hb:w'.heap[b]? = some (.map ((E.set n (k,v',s)).map (mkE enc)).toArray clock)):Xbn w' b enc (E.set n (k,v',s)) clock:=by
 have hlt:n<E.length:=(Zi.1 h).1
 have hst:(E.set n (k,v',s)).map (fun x=>(x.1,x.2.2))=E.map (fun x=>(x.1,x.2.2)):=by
  apply Zb3;intro i;simp only[Zaq,List.getElem?_set]
  by_cases e:n=i
  . subst e;have hx:E[n]=(k,v,s):=by rw[Zd hlt] at h;simpa using h
    simp[hx,hlt]
  . simp[e]
 have key:∀ (R:(κ×Nat)->(κ×Nat)->Prop),E.Pairwise (fun x y=>R (x.1,x.2.2) (y.1,y.2.2))->(E.set n (k,v',s)).Pairwise (fun x y=>R (x.1,x.2.2) (y.1,y.2.2)):=by
  intro R hp;have h1:(E.map (fun x=>(x.1,x.2.2))).Pairwise R:=by rw[Z7];exact hp
  rw[<- hst,Z7] at h1;exact h1
 refine⟨hb,key (fun x y=>x.2<y.2) hE.rising,fun x hx => ?_,key (fun x y=>x.1≠y.1) hE.keys⟩;rcases List.mem_or_eq_of_mem_set hx with h1 | h1
 . exact hE.below x h1
 . rw[h1];exact hE.below (k,v,s) (Zax h)
theorem Qou {E:List (Ent κ)} {k:κ} {v:Value} (h:∀ x∈E,x.1≠k) (hE:Xbn w b enc E clock) (hb:w'.heap[b]? = some (.map ((E ++ [(k,v,clock)]).map (mkE enc)).toArray (clock+1))):Xbn w' b enc (E ++ [(k,v,clock)]) (clock+1):=by
 refine⟨hb,?_,?_,?_⟩
 . rw[Z4];exact⟨hE.rising,by simp,fun x hx y hy=>by simp at hy;subst hy;exact hE.below x hx⟩
 . intro x hx;rcases Zj.1 hx with hx | hx
   . exact Nat.lt_succ_of_lt (hE.below x hx)
   . simp at hx;subst hx;exact Nat.lt_succ_self _
 . rw[Z4];exact⟨hE.keys,by simp,fun x hx y hy=>by simp at hy;subst hy;exact h x hx⟩
variable [DecidableEq κ]
def Qfh:List (Ent κ)->κ->Nat->Option (Nat×Value)
 | [],_,_=>none
 | x :: E,k,i=>if k=x.1 then some (i,x.2.1) else Qfh E k (i+1)
def Q5v:List (Ent κ)->κ->Value->Nat->List (Ent κ)
 | [],k,v,c => [(k,v,c)]
 | x :: E,k,v,c=>if k=x.1 then(x.1,v,x.2.2) :: E else x :: Q5v E k v c
theorem Qea (k:κ) (v:Value) (c:Nat):∀ E:List (Ent κ),strip (Q5v E k v c)=Xc (strip E) k v
 | []=>rfl
 | x :: E=>by
   simp only[Q5v,strip,Zm,Xc];split
   . rfl
   . simp only[Zm];congr 1;exact Qea k v c E
theorem Qkm (k:κ):∀ (E:List (Ent κ)) (i:Nat),(Qfh E k i).map (·.2)=Qe (strip E) k
 | [],_=>rfl
 | x :: E,i=>by
   simp only[Qfh,strip,Zm,Qe];split
   . rfl
   . exact Qkm k E (i+1)
theorem Qht {k:κ} {v:Value}:∀ {E:List (Ent κ)} {i j:Nat},Qfh E k i=some (j,v)->∃ n s,j=i+n/\E[n]? = some (k,v,s)/\∀ v' c,Q5v E k v' c=E.set n (k,v',s)
 | [],i,j,h=>by simp[Qfh] at h
 | x :: E,i,j,h=>by
   simp only[Qfh] at h
   by_cases e:k=x.1
   . rw[if_pos e] at h;obtain⟨rfl,rfl⟩:i=j/\x.2.1=v:=Su h;exact⟨0,x.2.2,rfl,by simp[e],fun v' c=>by simp[Q5v,e]⟩
   . rw[if_neg e] at h;obtain⟨n,s,h1,h2,h3⟩:=Qht h;exact⟨n+1,s,Om,Su h2,fun v' c=>by simp[Q5v,e,h3]⟩
theorem Qhs {k:κ}:∀ {E:List (Ent κ)} {i:Nat},Qfh E k i=none->(∀ x∈E,x.1≠k)/\∀ v c,Q5v E k v c=E ++ [(k,v,c)]
 | [],i,h=>⟨by simp,fun v c=>rfl⟩
 | x :: E,i,h=>by
   simp only[Qfh] at h
   by_cases e:k=x.1
   . rw[if_pos e] at h;cases h
   . rw[if_neg e] at h;obtain⟨h1,h2⟩:=Qhs h;exact⟨by simp only[Zr,forall_eq_or_imp];exact⟨fun q=>e q.symm,h1⟩,fun v c=>by simp[Q5v,e,h2]⟩
structure Qtw (P:Program) (kt:TypeId) (enc:κ->Value):Prop where
 check:∀ (w:World) (k:κ) (e:Bool),(Instr.checkKey e 10000 kt (enc k)).run P w = .ok () w
 bits:∀ k,Instr.sameBits 10000 (enc k) (enc k)=true
 find:∀ (w:World) (k:κ) (E:List (Ent κ)),(Instr.findKey kt (enc k) (E.map (mkE enc))).run P w = .ok (Qfh E k 0) w
theorem Qo (h:P.underlying kt=some .string):Qtw P kt Value.string where
 check w k e:=by
  rw[show (10000:Nat)=9999+1 from rfl];exact run_checkKey h (by simp[IsKey]) e 9999
 bits k:=by simp[Instr.sameBits,bytes_beq]
 find w k E:=by
  refine run_findKey h ?_
  suffices ∀ i,Instr.findNow .string (.string k) (E.map (mkE Value.string)) i=some (Qfh E k i) from this 0
  induction E with
  | nil=>intro i;rfl
  | cons x E ih =>
    intro i;simp only[Zm,Instr.findNow,Qfh,mkE,Instr.sameNow]
    by_cases e:k=x.1
    . subst e;have:(x.1 == x.1)=true:=(bytes_beq _ _).2 rfl;simp[this]
    . have:(k == x.1)=false:=by rw[<- Zad,bytes_beq];exact e
      simp only[this,if_neg e];exact ih (i+1)
theorem Qkr (h:P.underlying kt=some (.int .i64)):Qtw P kt (Value.int .i64) where
 check w k e:=by
  rw[show (10000:Nat)=9999+1 from rfl];exact run_checkKey h (by simp[IsKey]) e 9999
 bits k:=by simp[Instr.sameBits]
 find w k E:=by
  refine run_findKey h ?_
  suffices ∀ i,Instr.findNow (.int .i64) (Vj k) (E.map (mkE (Value.int .i64))) i=some (Qfh E k i) from this 0
  induction E with
  | nil=>intro i;rfl
  | cons x E ih =>
    intro i;simp only[Zm,Instr.findNow,Qfh,mkE,Instr.sameNow,if_true]
    by_cases e:k=x.1
    . subst e;simp
    . have:(k == x.1)=false:=Su e;simp only[this,if_neg e];exact ih (i+1)
def Q1k (T:Tab):List (String×Nat×Nat)->List Value->Bool
 | [],_=>true
 | (nm, t, off) :: fs, xs => !(nm == "_") && (match Qif T t with
   | some ⟨.int k,_,_,_⟩=>(match nth xs off with | some (.int k' _)=>decide (k'=k) | _=>false)
   | some ⟨.str,_,_,_⟩=>(match nth xs off with | some (.string _)=>true | _=>false)
   | some ⟨.bool,_,_,_⟩=>(match nth xs off with | some (.bool _)=>true | _=>false)
   | _=>false)&&Q1k T fs xs
theorem Qls {T:Tab} (hT:Qbe P T) (w:World) (em:Bool) (n:Nat):∀ {gs:List Field} {fs:List (String×Nat×Nat)} {xs:List Value},gs.map (fun f=>(f.name,f.type,f.offset))=fs->Q1k T fs xs=true ->
 ∀ f ∈ gs, f.name ≠ "_" ∧ ∃ v, (part f.type xs.toArray f.offset).run P w = .ok v w ∧ (Instr.checkKey em (n + 1) f.type v).run P w = .ok () w
 | [],_,_,_,_,f,hf=>by simp at hf
 | g :: gs,[],xs,hg,_,f,hf=>by simp at hg
 | g :: gs,(nm,t,off) :: fs,xs,hg,h,f,hf=>by
   simp only[Zm,Zcx,Prod.mk.injEq] at hg;obtain⟨⟨rfl,rfl,rfl⟩,hg'⟩:=hg;simp only[Q1k,Zl] at h;obtain⟨⟨h1,h2⟩,h3⟩:=h;rcases Zr.1 hf with rfl | hf
   . refine⟨Su h1,?_⟩;split at h2
     . rename_i k s1 s2 s3 ht;obtain⟨_,d0,_,hd,_,hsh,_⟩:=Xm (hT.get ht);obtain rfl:=Q94 hsh;split at h2
       . rename_i k' a ha;exact⟨_,Qb5 hd rfl ha w,run_checkKey hd (by simpa [IsKey] using h2) em n⟩
       . cases h2
     . rename_i s1 s2 s3 ht;obtain⟨_,d0,_,hd,_,hsh,_⟩:=Xm (hT.get ht);obtain rfl:=Qq8 hsh;split at h2
       . rename_i a ha;exact⟨_,Qb5 hd rfl ha w,run_checkKey hd (by simp[IsKey]) em n⟩
       . cases h2
     . rename_i s1 s2 s3 ht;obtain⟨_,d0,_,hd,_,hsh,_⟩:=Xm (hT.get ht);obtain rfl:=Q93 hsh;split at h2
       . rename_i a ha;exact⟨_,Qb5 hd rfl ha w,run_checkKey hd (by simp[IsKey]) em n⟩
       . cases h2
     . cases h2
   . exact Qls hT w em n hg' h3 f hf
theorem Qhw {T:Tab} (hT:Qbe P T) {fs:List (String×Nat×Nat)} (hs:Xbi P kt fs) {encl:κ->List Value} (hp:∀ k,Q1k T fs (encl k)=true) (he:∀ a b,eqL T fs (encl a) (encl b)=some (decide (a=b)))
 (hb:∀ k,Instr.sameBits 10000 (.agg (encl k).toArray) (.agg (encl k).toArray)=true):Qtw P kt (fun k => .agg (encl k).toArray) where
 check w k e:=by
  rw[show (10000:Nat)=9999+1 from rfl,Instr.checkKey];simp only[Sem.run_bind,run_underlying hs.und,Result.andThen_ok];rw[<- Array.forIn_toList];have deep:=Qls hT w e 9998 hs.fields (hp k);generalize (P.fieldsOf kt).toList=L at deep
  induction L with
  | nil=>simp
  | cons f L ih =>
    obtain⟨hn,v,p1,p2⟩:=deep f (by simp);simp only[List.forIn_cons,Sem.run_bind,hn,ne_eq,not_false_eq_true,if_true,Result.andThen_ok,p1,p2,Sem.run_pure];exact ih (fun y hy=>deep y (by simp[hy]))
 bits:=hb
 find w k E:=by
  rw[run_findKey_eq w (by rw[hs.und])]
  suffices ∀ i,(Instr.findAsking kt (.agg (encl k).toArray) (E.map (mkE fun k => .agg (encl k).toArray)) i).run P w = .ok (Qfh E k i) w from this 0
  induction E with
  | nil=>intro i;simp[Instr.findAsking,Qfh]
  | cons x E ih =>
    intro i;have h1:=Qlh hT hs (he k x.1) w;simp only[Zm,Instr.findAsking,Qfh,mkE,Sem.run_bind,h1,Result.andThen_ok]
    by_cases e:k=x.1
    . simp[e]
    . simp only[e,decide_false,Zag,if_false];exact ih (i+1)
theorem Qg9 (ht:P.underlying mt=some (.map kt et)) (K:Qtw P kt enc) {z:Value} (hz:(zeroValue et).run P w = .ok z w) (hm:MapAt w b enc L) (k:κ) (ok:Bool) :
 (Instr.lookup mt (.map (some b)) (enc k) ok).run P w = .ok (if ok then .tuple #[(Qe L k).getD z,.bool (Qe L k).isSome] else(Qe L k).getD z) w:=by
 obtain⟨E,c,hE,rfl⟩:=hm;have hf:=K.find w k E;rw[<- Qkm k E 0];simp only[Instr.lookup,Sem.run_bind,run_underlying ht,Result.andThen_ok,Qdd hE.block,K.check,Sem.run_pure,hf]
 cases hfe:Qfh E k 0 with
 | none=>simp[hz]
 | some p=>simp
theorem Qmf (ht:P.underlying mt=some (.map kt et)) (K:Qtw P kt enc) {z:Value} (hz:(zeroValue et).run P w = .ok z w) (k:κ) (ok:Bool) :
 (Instr.lookup mt (.map none) (enc k) ok).run P w = .ok (if ok then .tuple #[z,.bool false] else z) w:=by
 have hf:=K.find w k [];simp only[Instr.lookup,Sem.run_bind,run_underlying ht,Result.andThen_ok,K.check,Sem.run_pure];simp only[Zb8,Qfh] at hf;simp[hf,hz]
theorem Xz (ht:P.underlying mt=some (.map kt et)) (K:Qtw P kt enc) {e:TyE} (he:Xe P et=some e) {cl:Cl} (hk:Kept cl w b) (hm:MapAt w b enc L) (k:κ) :
 RdS P cl w (Instr.lookup mt (.map (some b)) (enc k) false) ((Qe L k).getD e.zero):=fun w' hw=>by
 have:=Qg9 ht K (Qlb he w') (hm.keep (hk w' hw)) k false;simpa using this
theorem Qvm (ht:P.underlying mt=some (.map kt et)) (K:Qtw P kt enc) {e:TyE} (he:Xe P et=some e) {cl:Cl} (hk:Kept cl w b) (hm:MapAt w b enc L) (k:κ) :
 RdS P cl w (Instr.lookup mt (.map (some b)) (enc k) true) (.tuple #[(Qe L k).getD e.zero,.bool (Qe L k).isSome]):=fun w' hw=>by
 have:=Qg9 ht K (Qlb he w') (hm.keep (hk w' hw)) k true;simpa using this
theorem Qx (ht:P.underlying mt=some (.map kt et)) (K:Qtw P kt enc) (hm:MapAt w b enc L) (k:κ) (v:Value) {R:Value->World->Prop}
 (h:∀ w',MapAt w' b enc (Xc L k v)->Only w w' b->R undef w'):Qxc P (Instr.mapUpdate mt (.map (some b)) (enc k) v) w R:=by
 obtain⟨E,c,hE,rfl⟩:=hm;have hf:=K.find w k E
 have hrun:∃ o,(Instr.mapUpdate mt (.map (some b)) (enc k) v).run P w = .ok () (setBlock w b o)/\MapAt (setBlock w b o) b enc (Xc (strip E) k v):=by
  cases hfe:Qfh E k 0 with
  | none =>
    obtain⟨h1,h2⟩:=Qhs hfe;refine⟨.map ((E ++ [(k,v,c)]).map (mkE enc)).toArray (c+1),?_,?_⟩
    . rw[hfe] at hf;simp only[Instr.mapUpdate,Sem.run_bind,run_underlying ht,Result.andThen_ok,Qdd hE.block,K.check,hf,Qgj _ hE.block];simp[setBlock,mkE]
    . refine⟨_,_,Qou h1 hE (Qaa hE.block),?_⟩;rw[<- h2 v c,Qea]
  | some p =>
    obtain⟨j,v0⟩:=p;obtain⟨n,s,hj,hn,hs⟩:=Qht hfe;obtain rfl:j=n:=Om;refine⟨.map ((E.set j (k,v,s)).map (mkE enc)).toArray c,?_,?_⟩
    . rw[hfe] at hf;have hkey:(((E.map (mkE enc)).toArray[j]?).map (·.key)).getD (enc k)=enc k:=by simp[hn,mkE]
      simp only[Instr.mapUpdate,Sem.run_bind,run_underlying ht,Result.andThen_ok,Qdd hE.block,K.check,hf,hkey,Instr.keyThatStays,K.bits,if_true,Sem.run_pure,Qgj _ hE.block];rw[Qkx (y:=(k,v,s)) hn rfl];rfl
    . refine⟨_,_,Qk5 hn hE (Qaa hE.block),?_⟩;rw[<- hs v c,Qea]
 obtain⟨o,h1,h2⟩:=hrun;exact⟨_,h1,h _ h2 (Qah w b o)⟩
theorem Qof (ht:P.underlying mt=some (.map kt et)) (K:Qtw P kt enc) {e:TyE} (he:Xe P et=some e) (hm:MapAt w b enc L) (k:κ) {R:Value->World->Prop}
 (h:∀ w' s,Xhh w' b enc (Xc L k ((Qe L k).getD e.zero)) k s->Only w w' b->R (.tuple #[(Qe L k).getD e.zero,Vj (s:Nat)]) w'):Qkj P (Instr.mapEntry mt (.map (some b)) (enc k)) w R:=by
 obtain⟨E,c,hE,rfl⟩:=hm;have hf:=K.find w k E;have hlk:=Qkm k E 0;have hz:=Qlb he w
 have hrun:∃ o s,(Instr.mapEntry mt (.map (some b)) (enc k)).run P w = .ok (.tuple #[(Qe (strip E) k).getD e.zero,Vj (s:Nat)]) (setBlock w b o)/\Xhh (setBlock w b o) b enc (Xc (strip E) k ((Qe (strip E) k).getD e.zero)) k s:=by
  cases hfe:Qfh E k 0 with
  | none =>
    obtain⟨h1,h2⟩:=Qhs hfe;rw[hfe] at hlk;rw[<- hlk];refine⟨.map ((E ++ [(k,e.zero,c)]).map (mkE enc)).toArray (c+1),c,?_,?_⟩
    . rw[hfe] at hf;simp only[Instr.mapEntry,Sem.run_bind,run_underlying ht,Result.andThen_ok,Qdd hE.block,K.check,hf,hz,Qgj _ hE.block,Sem.run_pure];simp[setBlock,mkE,goInt]
    . refine⟨_,_,Qou h1 hE (Qaa hE.block),?_,e.zero,by simp⟩;rw[<- h2 e.zero c,Qea];rfl
  | some p =>
    obtain⟨j,v0⟩:=p;obtain⟨n,s,hj,hn,hs⟩:=Qht hfe;obtain rfl:j=n:=Om;rw[hfe] at hlk;rw[<- hlk];have hn':(E.map (mkE enc)).toArray[j]? = some (mkE enc (k,v0,s)):=by simp[hn]
    refine⟨.map ((E.set j (k,v0,s)).map (mkE enc)).toArray c,s,?_,?_⟩
    . rw[hfe] at hf;simp only[Instr.mapEntry,Sem.run_bind,run_underlying ht,Result.andThen_ok,Qdd hE.block,K.check,hf,hn',Zch,Zaj,mkE,Instr.keyThatStays,K.bits,if_true,Sem.run_pure,Qgj _ hE.block];have:=Qkx (enc:=enc) (f:=fun e=>{ e with key:=enc k }) (y:=(k,v0,s)) hn rfl;rw[this];rfl
    . refine⟨_,_,Qk5 hn hE (Qaa hE.block),?_,v0,?_⟩
      . rw[<- hs v0 c,Qea];rfl
      . have hlt:j<E.length:=(Zi.1 hn).1;exact Zax (i:=j) (by simp[List.getElem?_set,hlt])
 obtain⟨o,s,h1,h2⟩:=hrun;exact⟨_,_,h1,h _ s h2 (Qah w b o)⟩
theorem Qog {k:κ} {s:Nat} (hm:Xhh w b enc L k s) (v:Value) {R:Value->World->Prop}
 (h:∀ w',MapAt w' b enc (Xc L k v)->Only w w' b->R undef w'):Qxc P (Instr.entryStore mt (.map (some b)) (Vj (s:Nat)) v) w R:=by
 obtain⟨E,c,hE,rfl,v0,hin⟩:=hm;obtain⟨n,hn⟩:=List.getElem?_of_mem hin;have hlt:n<E.length:=(Zi.1 hn).1
 have hidx:((E.map (mkE enc)).toArray.findIdx? (fun e=>(e.born:Int) == (s:Int)))=some n:=by
  rw[List.findIdx?_toArray,Zab];refine⟨Su hlt,?_,fun j hj => ?_⟩
  . have:E[n]=(k,v0,s):=by rw[Zd hlt] at hn;simpa using hn
    simp[mkE,this]
  . have hp:=Zau.1 hE.rising j n Om hlt hj;have:E[n]=(k,v0,s):=by rw[Zd hlt] at hn;simpa using hn
    rw[this] at hp;simp[mkE];simp at hp;omega
 have hset:Q5v E k v c=E.set n (k,v,s):=by
  have:∀ (E:List (Ent κ)) (n:Nat),E.Pairwise (fun x y=>x.1≠y.1)->E[n]? = some (k,v0,s)->Q5v E k v c=E.set n (k,v,s):=by
   intro E
   induction E with
   | nil=>intro n _ h;simp at h
   | cons x E ih =>
     intro n hp h;rw[Z9] at hp
     cases n with
     | zero =>
       obtain rfl:x=(k,v0,s):=Su h;simp[Q5v]
     | succ n =>
       have hm:(k,v0,s)∈E:=Zax (i:=n) (Su h);simp only[Q5v,if_neg (fun e:k=x.1=>hp.1 _ hm e.symm),List.set_cons_succ];rw[ih n hp.2 (Su h)]
  exact this E n hE.keys hn
 refine⟨setBlock w b (.map ((E.set n (k,v,s)).map (mkE enc)).toArray c),?_,h _ ⟨_,_,Qk5 hn hE (Qaa hE.block),?_⟩ (Qah _ _ _)⟩
 . have hm:=Qkx (enc:=enc) (f:=fun e=>{ e with val:=v }) (y:=(k,v,s)) hn rfl;have ha:(asInt (Vj (s:Int))).run P w = .ok (s:Int) w:=by simp[asInt,asIntOf]
   simp only[Instr.entryStore,Sem.run_bind,Qdd hE.block,Result.andThen_ok,ha,hidx,Qgj _ hE.block];rw[hm];rfl
 . rw[<- hset,Qea]
end
end Go.Proofs.YtpdonaienhociaaGreatDoor
namespace Go.Proofs.YtpdonaienhociaaGreatDoor
open Go.Se Go.RowKit
open Go.ChangeMaps (setBlock)
section
variable {κ:Type} {enc:κ->Value} {P:Program} {w w':World} {b:Nat} {L:List (κ×Value)}
theorem Qe9 {r:Nat} {vs:List (κ×Value)} {ty:TypeId} (hi:Iter w r b enc L vs) {R:Value->World->Prop}
 (hdone:vs.Perm L->R (.tuple #[.bool false]) w)
 (hstep:∀ x w',x∈L->(∀ y∈vs,y.1≠x.1)->vs.length<L.length->Iter w' r b enc L (vs ++ [x])->Only w w' r->(∀ w2,w2.heap[r]? = w'.heap[r]? -> w2.heap[b]? = w'.heap[b]? -> (Instr.entry (Pj r)).run P w2 = .ok (.tuple #[enc x.1,x.2]) w2)->R (.tuple #[.bool true,enc x.1,x.2]) w') :
 Qkj P (Instr.next (Pj r) false ty) w R:=by
 have hrb:=hi.ne;obtain⟨E,c,V,si,c0,hE,rfl,hr,hold,hsc,hsk,rfl,hnd,hsub⟩:=hi;have hold':∀ x∈(E.map (mkE enc)).toArray.toList,x.born<si:=(by intro x hx;simp only[Zh] at hx;obtain⟨y,hy,rfl⟩:=hx;exact hold y hy)
 have hstamp:∀ x∈E,∀ y∈E,x.2.2=y.2.2->x=y:=by
  have:∀ E:List (Ent κ),E.Pairwise (fun x y=>x.2.2<y.2.2)->∀ x∈E,∀ y∈E,x.2.2=y.2.2->x=y:=by
   intro E
   induction E with
   | nil=>intro _ x hx;simp at hx
   | cons z E ih =>
     intro hp x hx y hy he;rw[Z9] at hp;rcases Zr.1 hx with h1 | h1 <;> rcases Zr.1 hy with h2 | h2
     . rw[h1,h2]
     . subst h1;have:=hp.1 _ h2;omega
     . subst h2;have:=hp.1 _ h1;omega
     . exact ih hp.2 x h1 y h2 he
  exact this E hE.rising
 rcases run_next_at (P:=P) w ty r b si c0 _ _ c hr hE.block hold' hsc with⟨h0,hrun⟩ | ⟨e,he,w1,hw1,hrun⟩
 . refine⟨_,_,hrun,hdone ?_⟩;have hall:∀ x∈E,x∈V:=(by intro x hx;have hl:leftOf (E.map (mkE enc)).toArray (V.map fun x:Ent κ=>x.2.2).toArray = #[]:=Array.eq_empty_of_size_eq_zero h0;unfold leftOf at hl;rw[Array.filter_eq_empty_iff] at hl;have:=hl (mkE enc x) (by simp;exact⟨_,_,_,hx,rfl⟩);simp[mkE] at this;obtain⟨a,a',hv⟩:=this;have h1:=hsub _ hv;have h2:=hstamp _ hx _ h1 rfl;rw[h2];exact hv);have hp:V.Perm E:=(by have hEn:E.Nodup:=(by rw[Zae];exact hE.rising.imp (fun h e=>by subst e;omega));exact Qhd hnd hEn hsub hall);exact hp.map _
 . unfold leftOf at he;simp only[Array.mem_toList_iff,Array.mem_filter,List.mem_toArray,Zh] at he;obtain⟨⟨x,hx,rfl⟩,hns⟩:=he;have hxV:x∉V:=(by intro hv;simp[mkE] at hns;exact hns x.1 x.2.1 hv);have hr1:w1.heap=w.heap:=by rcases hw1 with rfl | rfl <;> rfl
   have hon:Only w (setBlock w1 r (.mapIter (some b) si ((V.map fun x:Ent κ=>x.2.2).toArray.push (mkE enc x).born) c)) r:=by
    rcases hw1 with rfl | rfl
    . exact Qah _ _ _
    . have h2:=Qah w.drew r (.mapIter (some b) si ((V.map fun x:Ent κ=>x.2.2).toArray.push (mkE enc x).born) c);exact⟨h2.os,h2.tape,h2.output,h2.size,h2.block⟩
   refine⟨_,_,hrun,hstep (x.1,x.2.1) _ ?_ ?_ ?_ ?_ hon ?_⟩
   . exact Zh.2 ⟨x,hx,rfl⟩
   . intro y hy he;obtain⟨z,hz,rfl⟩:=Zh.1 hy;have:=Qie hE.keys (hsub z hz) hx he;exact hxV (this ▸ hz)
   . have:(x :: V).length<=E.length:=Qd3 (Zbc.2 ⟨hxV,hnd⟩) (fun y hy=>by
      rcases Zr.1 hy with rfl | hy
      . exact hx
      . exact hsub y hy)
     simp[strip] at this ⊢;omega
   . refine⟨E,c,V ++ [x],si,c,⟨(hon.block b (Ne.symm hrb)).trans hE.block,hE.rising,hE.below,hE.keys⟩,rfl,?_,hold,hsk,hsk,by simp[strip],?_,?_⟩
     . rw[Qaa (o := .mapIter (some b) si (V.map fun x:Ent κ=>x.2.2).toArray c0) (by rw[hr1];exact hr)];simp[mkE]
     . rw[Zcy];exact⟨hnd,by simp,fun a ha y hy=>by simp at hy;subst hy;rintro rfl;exact hxV ha⟩
     . intro y hy;rcases Zj.1 hy with hy | hy
       . exact hsub y hy
       . simp at hy;subst hy;exact hx
   . intro w2 h1 h2;have hrr:w2.heap[r]? = some (.mapIter (some b) si ((V.map fun x:Ent κ=>x.2.2).toArray.push (mkE enc x).born) c):=(by rw[h1,Qaa (o := .mapIter (some b) si (V.map fun x:Ent κ=>x.2.2).toArray c0) (by rw[hr1];exact hr)]);have hbb:w2.heap[b]? = some (.map (E.map (mkE enc)).toArray c):=by rw[h2,(hon.block b (Ne.symm hrb))];exact hE.block
     refine run_entry_at w2 r b si _ _ c (mkE enc x) hrr hbb (by simp;exact⟨_,_,_,hx,rfl⟩) ?_;simp only[Zy];rw[Zae,Z7];exact hE.rising.imp (fun h e=>by simp[mkE] at e;omega)
theorem Qaw {r:Nat} {R:Value->World->Prop} {x:Value} (h:(Instr.entry (Pj r)).run P w = .ok x w) (hR:R x w):Qkj P (Instr.entry (Pj r)) w R:=⟨_,_,h,hR⟩
end
end Go.Proofs.YtpdonaienhociaaGreatDoor
namespace Go.Proofs.YtpdonaienhociaaGreatDoor
open Go.Se Go.RowKit
def Qoi (c:UInt8):Bool:=((decide ((97:Int)<=c.toNat)&&decide ((c.toNat:Int)<=122))||(decide ((48:Int)<=c.toNat)&&decide ((c.toNat:Int)<=57)))||decide ((c.toNat:Int)=45)
def Qr (s:Bj):Bool:=decide (1<=s.size)&&decide (s.size<=24)&&s.data.toList.all Qoi
theorem bytes_at (s:Bj) (k:Nat) (h:k<s.size):s[k]? = some (s.data.toList[k]'(Su h)):=by
 rw[getElem?_pos s k h];rfl
theorem Xbp {α:Type} {l:List α} {p:α->Bool} {k:Nat} (h:∀ i (hi:i<l.length),i<k->p l[i]=true) (hk:l.length<=k):l.all p=true:=by
 rw[Zaf];intro x hx;obtain⟨i,hi,rfl⟩:=Za2 hx;exact h i hi Om
theorem Xe4 {α:Type} {l:List α} {p:α->Bool} {k:Nat} (hk:k<l.length) (h:p l[k]=false):l.all p=false:=by
 rw[List.all_eq_false];exact⟨l[k],Zx hk,by simp[h]⟩
def inB (n lo hi:Int):Bool:=decide (lo<=n)&&decide (n<=hi)
def Qc5 (s:Bj):Option Nat:=s.data.toList.findIdx? (· == 59)
def Xei (s:Bj):Int:=match Qc5 s with | some i=>i | none => -1
theorem Qot {s:Bj} {i:Nat} (h:Qc5 s=some i):i<s.size:=by
 unfold Qc5 at h;rw[Zab] at h;obtain⟨h1,_⟩:=h;simpa using h1
def Qcm (s:Bj):Bj:=match Qc5 s with | some i=>s.extract 0 i | none=>s
def Qab (s:Bj):List Value := [.string s]
theorem Qw (s:Bj):(Qab s).length=1:=rfl
theorem Qtm (s:Bj):∀ u∈Qab s,u.oneCell'=true:=by simp[Qab,Value.oneCell']
abbrev SlT:=Sl Qab 1
theorem Xir:Tryz.prog.underlying 36=some (.slice 9):=by kernel_rfl
def partsOf (c:UInt8):List UInt8->List (List UInt8)
 | [] => [[]]
 | x :: r=>if x=c then [] :: partsOf c r else match partsOf c r with
   | [] => [[x]]
   | p :: ps=>(x :: p) :: ps
theorem Qqy {c:UInt8}:∀ {a:List UInt8},(∀ x∈a,x≠c)->partsOf c a = [a]
 | [],_=>rfl
 | x :: a,h=>by
   have:=Qqy (c:=c) (a:=a) fun y hy=>h y (by simp[hy])
   simp[partsOf,h x (by simp),this]
theorem Xc1 (c:UInt8):∀ l:List UInt8,partsOf c l ≠ []
 | []=>by simp[partsOf]
 | x :: r=>by
   unfold partsOf;split
   . simp
   . split <;> simp
theorem Qor (c:UInt8):∀ l:List UInt8,(partsOf c l).length<=l.length+1
 | []=>by simp[partsOf]
 | x :: r=>by
   have:=Qor c r;unfold partsOf;split
   . simp;omega
   . split
     . simp
     . rename_i p ps hp;rw[hp] at this;simp at this ⊢;omega
def bytesOf (l:List UInt8):Bj:=⟨l.toArray⟩
def Qbs (c:UInt8) (s:Bj):List Bj:=(partsOf c s.data.toList).map bytesOf
theorem Qe3 (s:Bj) (i j:Nat):(s.extract i j).data.toList=(s.data.toList.drop i).take (j-i):=by
 rw[ByteArray.data_extract,Array.toList_extract]
theorem Qjj (s:Bj) (i j:Nat):s.extract i j=bytesOf ((s.data.toList.drop i).take (j-i)):=by
 rw[<- Qe3];rfl
def Xg (s:Bj):List Bj:=match Qc5 s with
 | some i=>if i+1=s.size then [] else Qbs 44 (s.extract (i+1) s.size)
 | none => []
theorem Qzs {s:Bj} {i:Nat} (hp:Qc5 s=some i) (h:¬ i+1=s.size):Xg s=Qbs 44 (s.extract (i+1) s.size):=by
 unfold Xg;rw[hp];simp[h]
def bLt (a b:Bj):Bool:=Op.bytesLess a.toList b.toList
def Qws (l:List Bj) (i:Nat):Bool:=Qr (l.getD i .empty)&&(i == 0||bLt (l.getD (i-1) .empty) (l.getD i .empty))
def Qho (l:List Bj):Bool:=(List.range l.length).all (Qws l)
def Qc1 (s:Bj):Bool:=(Qc5 s).isSome&&Qr (Qcm s)&&(Qho (Xg s)&&decide ((Xg s).length<=8))
theorem Q5a {l:List Bj} {k:Nat} (h:∀ i,i<k->Qws l i=true) (hk:l.length<=k):Qho l=true:=by
 unfold Qho;rw[Zaf];intro i hi;exact h i (by have:=List.mem_range.1 hi;omega)
theorem Q5b {l:List Bj} {k:Nat} (hk:k<l.length) (h:Qws l k=false):Qho l=false:=by
 unfold Qho;rw[List.all_eq_false];exact⟨k,List.mem_range.2 hk,by simp[h]⟩
theorem getD_lt {α:Type} {l:List α} {i:Nat} {d:α} (h:i<l.length):l.getD i d=l[i]:=by
 rw[Zbm,Zd h];rfl
theorem Sl.getS {w:World} {A:Option Addr} {l:List Bj} (h:SlT w A l) {k:Nat} (hk:k<l.length):∃ a,A=some a/\w.cell? (a.add (k*1))=some (.string (l.getD k .empty)):=by
 obtain⟨a,ha,hc⟩:=h.get hk;exact⟨a,ha,by rw[getD_lt hk];exact Qs hc⟩
theorem Q1x (s:Bj):(Xg s).length<=s.size+1:=by
 unfold Xg;split
 . split
   . simp
   . have:=Qor 44 (s.extract (‹Nat› + 1) s.size).data.toList;simp[Qbs] at this ⊢;omega
 . simp
def k6 (e:Ev):Bool:=decide (e.kind=0)||decide (e.kind=1)||decide (e.kind=2)||decide (e.kind=3)||decide (e.kind=5)||decide (e.kind=6)
def k4 (e:Ev):Bool:=decide (e.kind=7)||decide (e.kind=8)||decide (e.kind=9)||decide (e.kind=10)
def Qjq (e:Ev):Bool :=
 bif k6 e then Qr e.person&&Qr e.item&&decide (e.text=⟨#[]⟩)&&decide (e.val=0)
 else bif decide (e.kind=4) then Qr e.person&&Qr e.item&&decide (e.text=⟨#[]⟩)&&inB e.val 1 5
 else bif k4 e then Qr e.person&&decide (e.item=⟨#[]⟩)&&Qr e.text&&decide (e.val=0)
 else bif decide (e.kind=11) then decide (e.person=⟨#[]⟩)&&Qr e.item&&Qc1 e.text&&inB e.val 0 1048576
 else bif decide (e.kind=12) then decide (e.person=⟨#[]⟩)&&Qr e.item&&decide (e.text=⟨#[]⟩)&&inB e.val 0 1048576
 else bif decide (e.kind=13) then decide (e.person=⟨#[]⟩)&&Qr e.item&&decide (e.text=⟨#[]⟩)&&decide (e.val=0)
 else bif decide (e.kind=14) then Qr e.person&&decide (e.item=⟨#[]⟩)&&decide (e.text=⟨#[]⟩)&&decide (e.val=0)
 else false
def X0 (e:Ev):Bool:=Qr e.src&&inB e.num 1 1099511627776&&inB e.at_ 0 1099511627776&&Qjq e
def Q5 (a b:Ev):Bool:=bif decide (a.at_=b.at_) then(bif decide (a.src=b.src) then decide (a.num<b.num) else bLt a.src b.src) else decide (a.at_<b.at_)
def Qc2 (s:Bj):Bj:=bif decide (s=⟨#[]⟩) then⟨#[46]⟩ else s
def kindNames:List Bj := [⟨#[115,101,101,110]⟩,⟨#[111,112,101,110,101,100]⟩,⟨#[102,105,110,105,115,104,101,100]⟩,⟨#[98,111,117,103,104,116]⟩,⟨#[114,97,116,101,100]⟩,⟨#[104,105,100,100,101,110]⟩,⟨#[117,110,104,105,100,100,101,110]⟩,⟨#[102,111,108,108,111,119,101,100]⟩,⟨#[117,110,102,111,108,108,111,119,101,100]⟩,⟨#[109,117,116,101,100]⟩,⟨#[117,110,109,117,116,101,100]⟩,⟨#[108,105,115,116,101,100]⟩,⟨#[115,116,111,99,107,101,100]⟩,⟨#[100,101,108,105,115,116,101,100]⟩,⟨#[102,111,114,103,111,116,116,101,110]⟩]
theorem Q0o {m:Nat} (h:9<m):Lib.decDigits m=Lib.decDigits (m/10) ++ [UInt8.ofNat (48+m % 10)]:=by
 rw[Lib.decDigits,dif_neg Om]
theorem Xfm (n:Nat) (h:n<9223372036854775808):(Lib.decDigits n).length<=21:=by
 have:=Lib.itoa_length_le (n:Int) Om Om;rw[Lib.itoa_nonneg] at this;exact this
theorem Qp8 (a:List UInt8):(bytesOf a).size=a.length:=by simp[bytesOf,ByteArray.size]
def Qr1 (n:Nat):Bj:=bytesOf (Lib.decDigits n)
def spB:Bj:=⟨#[32]⟩
theorem sz2 {a b:Bj} (ha:a.size<=1000000000) (hb:b.size<=1000000000):a.size+b.size<=9223372036854775807:=Om
def knB (e:Ev):Bj:=kindNames.getD e.kind.toNat .empty
def Qkh (e:Ev):Bj :=
 e.src++spB++Qr1 e.num.toNat++spB++Qr1 e.at_.toNat++spB++knB e++spB++Qc2 e.person++spB++Qc2 e.item++spB++Qr1 e.val.toNat++spB++Qc2 e.text
structure FOk (e:Ev):Prop where
 num:0<=e.num/\e.num<9223372036854775808
 at_:0<=e.at_/\e.at_<9223372036854775808
 val:0<=e.val/\e.val<9223372036854775808
 kind:0<=e.kind/\e.kind<15
 src:e.src.size<1000000
 person:e.person.size<1000000
 item:e.item.size<1000000
 text:e.text.size<1000000
theorem Qjg (n:Nat) (h:n<9223372036854775808):(Qr1 n).size<=21:=by
 unfold Qr1;rw[Qp8];exact Xfm n h
def Qbf (a b:Ev):Bool:=bif Q5 a b||Q5 b a then Q5 a b else bLt (Qkh a) (Qkh b)
def Qcr (e x:Ev):Bool:=decide (x.src=e.src)&&decide (x.num=e.num)
def Qa3 (out:List Ev) (e:Ev):List Ev:=match out.findIdx? (Qcr e) with
 | none=>out ++ [e]
 | some k=>bif Qbf e (out.getD k e) then out.set k e else out
def Qet (l:List Ev):List Ev:=l.foldl Qa3 []
theorem Qsz (out:List Ev) (e:Ev):(Qa3 out e).length<=out.length+1:=by
 unfold Qa3;split
 . simp
 . cases Qbf e (out.getD _ e) <;> simp
theorem Qjv:∀ (l out:List Ev),(l.foldl Qa3 out).length<=out.length+l.length
 | [],out=>by simp
 | e :: l,out=>by
   have h1:=Qjv l (Qa3 out e);have h2:=Qsz out e;simp at h1 ⊢;omega
theorem Q1e (l:List Ev):(Qet l).length<=l.length:=by
 have:=Qjv l [];simpa [Qet] using this
theorem Qs0 {out:List Ev} {e x:Ev} (h:x∈Qa3 out e):x∈out\/x=e:=by
 unfold Qa3 at h;split at h
 . simpa using h
 . cases hb:Qbf e (out.getD _ e) <;> rw[hb] at h
   . exact .inl h
   . exact List.mem_or_eq_of_mem_set h
theorem Qjw:∀ {l out:List Ev} {x:Ev},x∈l.foldl Qa3 out->x∈out\/x∈l
 | [],out,x,h => .inl h
 | e :: l,out,x,h=>by
   rcases Qjw (l:=l) h with h | h
   . rcases Qs0 h with h | h
     . exact .inl h
     . exact .inr (by simp[h])
   . exact .inr (by simp[h])
theorem Q1f {l:List Ev} {x:Ev} (h:x∈Qet l):x∈l:=by
 rcases Qjw h with h | h
 . simp at h
 . exact h
theorem Qnf:∀ x:List UInt8,Op.bytesLess x x=false
 | []=>rfl
 | a :: x=>by simp[Op.bytesLess,Qnf x]
theorem Xea (x:List UInt8):Op.bytesLess x []=false:=by cases x <;> rfl
theorem Xio {a b:UInt8}:a<b↔a.toNat<b.toNat:=Iff.rfl
theorem Xin {a b:UInt8}:a=b↔a.toNat=b.toNat:=UInt8.toNat_inj.symm
theorem Qxh {a b:UInt8} {x y:List UInt8}:Op.bytesLess (a :: x) (b :: y)=true↔a.toNat<b.toNat\/(a=b/\Op.bytesLess x y=true):=by
 simp only[Op.bytesLess,Zbi,decide_eq_true_eq,Zl,beq_iff_eq,Xio]
theorem Qro:∀ {x y z:List UInt8},Op.bytesLess x y=true->Op.bytesLess y z=true->Op.bytesLess x z=true
 | x,[],z,h,_=>by rw[Xea] at h;cases h
 | _,b :: y,[],_,h=>by rw[Xea] at h;cases h
 | [],b :: y,c :: z,_,_=>rfl
 | a :: x,b :: y,c :: z,h,k=>by
   rw[Qxh] at h k ⊢;rcases h with h | ⟨rfl,h⟩ <;> rcases k with k | ⟨rfl,k⟩
   . exact .inl Om
   . exact .inl h
   . exact .inl k
   . exact .inr ⟨rfl,Qro h k⟩
theorem Xeb:∀ {x y:List UInt8},Op.bytesLess x y=false->Op.bytesLess y x=false->x=y
 | [],[],_,_=>rfl
 | [],b :: y,h,_=>by simp[Op.bytesLess] at h
 | a :: x,[],_,h=>by simp[Op.bytesLess] at h
 | a :: x,b :: y,h,k=>by
   rw[<- Zad,Qxh] at h k;have h1:a=b:=by rw[Xin];omega
   subst h1;rw[Xeb (x:=x) (y:=y) (by rw[<- Zad];exact fun e=>h (.inr ⟨rfl,e⟩)) (by rw[<- Zad];exact fun e=>k (.inr ⟨rfl,e⟩))]
theorem Xbu {x y:List UInt8} (h:Op.bytesLess x y=true):Op.bytesLess y x=false:=by
 cases k:Op.bytesLess y x with
 | false=>rfl
 | true=>have:=Qro h k;rw[Qnf] at this;cases this
theorem Qus:∀ x y:List UInt8,Lib.compareBytes x y=if Op.bytesLess x y=true then -1 else if Op.bytesLess y x=true then 1 else 0
 | [],[]=>rfl
 | [],b :: y=>by simp[Lib.compareBytes,Op.bytesLess]
 | a :: x,[]=>by simp[Lib.compareBytes,Op.bytesLess]
 | a :: x,b :: y=>by
   simp only[Lib.compareBytes,Qxh,Qus x y,Xio]
   by_cases h1:a.toNat<b.toNat
   . simp[h1]
   . by_cases h2:b.toNat<a.toNat
     . have hn:¬ (a=b):=fun e=>by rw[e] at h2;omega
       simp[h1,h2,hn]
     . have:a=b:=by rw[Xin];omega
       subst this;simp[h1]
theorem Q6f {a b:Bj} (h:a.toList=b.toList):a=b:=by
 rw[ByteArray.toList_eq,ByteArray.toList_eq] at h;exact WideShapes.bytes_inj h
theorem Xr (a:Bj):bLt a a=false:=Qnf _
theorem Qbv {a b c:Bj} (h:bLt a b=true) (k:bLt b c=true):bLt a c=true:=Qro h k
theorem Qbw {a b:Bj} (h:bLt a b=false) (k:bLt b a=false):a=b:=Q6f (Xeb h k)
theorem Qdg {a b:Bj} (h:bLt a b=true):bLt b a=false:=Xbu h
def Qch (a b:Bj):Int:=if bLt a b=true then -1 else if bLt b a=true then 1 else 0
theorem Xfi (a b:Bj):Lib.compareBytes a.data.toList b.data.toList=Qch a b:=by
 rw[Qus];unfold Qch bLt;rw[ByteArray.toList_eq,ByteArray.toList_eq]
def Qcy (a b:Int):Int:=if a<b then -1 else if b<a then 1 else 0
theorem Qef {a b:Int}:Qcy a b=0↔a=b:=by unfold Qcy;split <;> (try split) <;> omega
theorem Qbx {a b:Bj}:Qch a b=0↔a=b:=by
 unfold Qch;constructor
 . intro h;split at h
   . omega
   . split at h
     . omega
     . rename_i h1 h2;exact Qbw (Su h1) (Su h2)
 . rintro rfl;simp[Xr]
theorem Qe5 (a b:Ev):Q5 a b=true↔a.at_<b.at_\/(a.at_=b.at_/\(bLt a.src b.src=true\/(a.src=b.src/\a.num<b.num))):=by
 unfold Q5
 by_cases h:a.at_=b.at_
 . by_cases k:a.src=b.src
   . simp[h,k,Xr]
   . simp[h,k]
 . simp[h]
def Qjc (a b:Ev):Int:=if Qcy a.at_ b.at_≠0 then Qcy a.at_ b.at_ else if Qch a.src b.src≠0 then Qch a.src b.src else Qcy a.num b.num
theorem Qbh:Swo Q5 where
 asymm x y h:=by
  rw[<- Zad];intro k;rw[Qe5] at h k;rcases h with h | ⟨h1,h | ⟨h2,h3⟩⟩ <;> rcases k with k | ⟨k1,k | ⟨k2,k3⟩⟩ <;> try omega
  . rw[Qdg h] at k;cases k
  . rw[k2,Xr] at h;cases h
  . rw[h2,Xr] at k;cases k
 trans x y z h k:=by
  rw[<- Zad] at h k ⊢;intro hh;rw[Qe5] at hh;rw[Qe5] at h k;have h1:x.at_<=y.at_:=Om;have k1:y.at_<=z.at_:=Om;rcases hh with hh | ⟨e,hh⟩
  . omega
  . have e1:y.at_=x.at_:=Om;have e2:z.at_=y.at_:=Om;have h2:¬ (bLt y.src x.src=true\/(y.src=x.src/\y.num<x.num)):=fun q=>h (.inr ⟨e1,q⟩)
    have k2:¬ (bLt z.src y.src=true\/(z.src=y.src/\z.num<y.num)):=fun q=>k (.inr ⟨e2,q⟩)
    by_cases p1:bLt x.src y.src=true
    . by_cases p2:bLt y.src z.src=true
      . have p3:=Qbv p1 p2;rcases hh with q | ⟨q,_⟩
        . rw[Qdg p3] at q;cases q
        . rw[q,Xr] at p3;cases p3
      . have p3:y.src=z.src:=Qbw (Su p2) (by simpa using fun q=>k2 (.inl q));rw[p3] at p1;rcases hh with q | ⟨q,_⟩
        . rw[Qdg p1] at q;cases q
        . rw[q,Xr] at p1;cases p1
    . have p3:x.src=y.src:=Qbw (Su p1) (by simpa using fun q=>h2 (.inl q));rw[p3] at hh h2;rcases hh with q | ⟨q,q2⟩
      . exact k2 (.inl q)
      . have:¬ y.num<x.num:=fun r=>h2 (.inr ⟨rfl,r⟩)
        have:¬ z.num<y.num:=fun r=>k2 (.inr ⟨q,r⟩)
        omega
theorem Qhy {x y:Ev} (h:Q5 x y=false) (k:Q5 y x=false):x.at_=y.at_/\x.src=y.src/\x.num=y.num:=by
 rw[<- Zad,Qe5] at h k;have e:x.at_=y.at_:=Om;have h1:¬ bLt x.src y.src=true:=fun q=>h (.inr ⟨e,.inl q⟩)
 have k1:¬ bLt y.src x.src=true:=fun q=>k (.inr ⟨e.symm,.inl q⟩)
 have e2:x.src=y.src:=Qbw (Su h1) (Su k1);have h2:¬ x.num<y.num:=fun q=>h (.inr ⟨e,.inr ⟨e2,q⟩⟩)
 have k2:¬ y.num<x.num:=fun q=>k (.inr ⟨e.symm,.inr ⟨e2.symm,q⟩⟩)
 exact⟨e,e2,Om⟩
theorem Xb2 {a b:Bj}:Qch a b<0↔bLt a b=true:=by
 unfold Qch;split
 . rename_i h;simp[h]
 . rename_i h;split <;> simp[h]
theorem Q0j {a b:Int}:Qcy a b<0↔a<b:=by unfold Qcy;split <;> (try split) <;> omega
theorem Qcg (a b:Ev):decide (Qjc a b<0)=Q5 a b:=by
 rw[Zbx,decide_eq_true_eq,Qe5];unfold Qjc
 by_cases h:Qcy a.at_ b.at_=0
 . have e:=Qef.1 h;rw[if_neg (Su h)]
   by_cases k:Qch a.src b.src=0
   . have e2:=Qbx.1 k;rw[if_neg (Su k),Q0j];simp[e,e2,Xr]
   . have e2:a.src≠b.src:=fun q=>k (Qbx.2 q)
     rw[if_pos k,Xb2];simp[e,e2]
 . have e:a.at_≠b.at_:=fun q=>h (Qef.2 q)
   rw[if_pos h,Q0j];simp[e]
theorem Qnl (a b:Ev):Qjc a b=0↔a.at_=b.at_/\a.src=b.src/\a.num=b.num:=by
 unfold Qjc
 by_cases h:Qcy a.at_ b.at_=0
 . have e:=Qef.1 h;rw[if_neg (Su h)]
   by_cases k:Qch a.src b.src=0
   . have e2:=Qbx.1 k;rw[if_neg (Su k),Qef];simp[e,e2]
   . have e2:a.src≠b.src:=fun q=>k (Qbx.2 q)
     rw[if_pos k];simp[e2,k]
 . have e:a.at_≠b.at_:=fun q=>h (Qef.2 q)
   rw[if_pos h];simp[e,h]
