/- Several texts in one: Wa1, Wa2, Wa3, Wr1. -/
import Derived.Test.YtdahooejkjcjiaaGreatDoorGF
import Derived.Test.YtdahooejkjcjiaaGreatDoorGC
set_option linter.unusedVariables false
set_option linter.unusedSimpArgs false
namespace Go.Proofs.YtdahooejkjcjiaaGreatDoor
open Go.Se Go.RowKit
def Qa0 (p:ByteArray) (e:Ev):Bool:=decide (e.person=p) && !decide (e.kind=14)
def thV (bp:Nat):Value := .func (.func 81) #[] #[.pointer (some ⟨bp,0,none⟩)]
theorem Qn7 (bp:Nat) (p:ByteArray) (e:Ev) (w:World) (hp:At w bp 9 [.string p]) :
 Cal Tryz.prog 81 [evV e,.pointer (some ⟨bp,0,none⟩)] w fun r w'=>r = .bool (Qa0 p e)∧Ext w w':=by
 refine Fi Tryz.func81 rfl _ rfl rfl (Hh ?_);intro b1 w1 hn1;refine Gg ?_;have h1:At w1 b1 34 (evC e):=hn1.At;refine⟨.string e.person,h1.one rfl,Gg ?_⟩;refine⟨.string p,(hp.ext hn1.ext).one0,Gg ?_⟩;refine⟨.int .i64 e.kind,fun _=>h1.one rfl,Gg ?_⟩
 exact⟨rfl,hn1.ext⟩
theorem Qpd (bp:Nat) (p:ByteArray) (l:List Ev) (A:Option Addr) (c:Nat) (w:World) (hp:At w bp 9 [.string p]) (hs:SlE w A l) (hl:l.length<1000000) :
 Cal Tryz.prog 140 [.slice A l.length c,thV bp] w fun r w'=>r = .int .i64 (match l.findIdx? (Qa0 p) with | some i=>(i:Int) | none => -1)∧Ext w w':=by
 refine Fi Tryz.func140 rfl _ rfl rfl (Hh ?_)
 refine Qd Qa (fun(k:Nat) w'=>k≤l.length∧Ext w w'∧∀ x∈l.take k,Qa0 p x=false)
  (fun k => [(0,.slice A l.length c),(1,thV bp),(7,.int .i64 l.length),(8,.int .i64 (k:Nat))]) (fun k=>l.length-k) 0 ⟨Nat.zero_le _,Ext.refl _,by simp⟩ Rr ?_
 rintro k w1 ⟨hk,hx,hall⟩
 conv=>whnf
 constructor
 · intro hlt
   have hlt:k<l.length:=by simpa using hlt
   obtain⟨a,rfl,hc⟩:=(hs.ext hx).get hlt;have htk:=Xi l k hlt
   have hfi:Qa0 p l[k]=true→l.findIdx? (Qa0 p)=some k:=fun h=>by
    rw[List.findIdx?_eq_some_iff_getElem];refine⟨hlt,h,fun j hj => ?_⟩;have hjl:j<l.length:=by omega
    have:=hall l[j] (by rw[List.mem_take_iff_getElem];exact⟨j,by omega,rfl⟩)
    simp[this]
   generalize l[k]=x at hc htk hfi;refine Gg ?_;refine⟨a,Ix,Gg ?_⟩;refine⟨evC x,⟨rfl,hc⟩,Gg ?_⟩;refine(Qn7 bp p x w1 (hp.ext hx)).mono ?_;rintro _ w2 ⟨rfl,hx2⟩;refine Gg ?_;constructor
   · intro h
     rw[hfi h];refine Gg ?_
     exact⟨rfl,hx.trans hx2⟩
   · intro h
     have h:Qa0 p x=false:=h;refine Gg ?_;refine⟨_,wrap_succ (by omega),Gg ?_⟩;refine⟨k+1,by omega,⟨by omega,hx.trans hx2,fun y hy => ?_⟩,Rr⟩;rw[htk] at hy;rcases List.mem_append.1 hy with hy | hy
     · exact hall y hy
     · rw[List.mem_singleton] at hy;rw[hy];exact h
 · intro hge
   have hge:l.length≤k:=by simpa using hge
   rw[List.take_of_length_le hge] at hall
   have:l.findIdx? (Qa0 p)=none:=by
    rw[List.findIdx?_eq_none_iff]
    exact hall
   rw[this];refine Gg ?_
   exact⟨rfl,hx⟩
theorem Qwc {α:Type} {q:α→Bool}:∀ {l:List α},(match l.findIdx? q with | some i=>(i:Int) | none => -1)≥0↔l.any q=true:=by
 intro l
 cases h:l.findIdx? q with
 | none =>
   rw[List.findIdx?_eq_none_iff] at h
   have:l.any q=false:=by
    rw[List.any_eq_false];intro x hx
    simp[h x hx]
   rw[this]
   simp
 | some i =>
   rw[List.findIdx?_eq_some_iff_getElem] at h;obtain⟨hi,hq,_⟩:=h;have:l.any q=true:=List.any_eq_true.2 ⟨_,List.getElem_mem hi,hq⟩;rw[this]
   simp
theorem Q0p (bp:Nat) (p:ByteArray) (l:List Ev) (A:Option Addr) (c:Nat) (w:World) (hp:At w bp 9 [.string p]) (hs:SlE w A l) (hl:l.length<1000000) :
 Cal Tryz.prog 82 [.slice A l.length c,thV bp] w fun r w'=>r = .bool (l.any (Qa0 p))∧Ext w w':=by
 refine Fi Tryz.func82 rfl _ rfl rfl (Hh ?_);refine(Qpd bp p l A c w hp hs hl).mono ?_;rintro _ w2 ⟨rfl,hx⟩;have h:=Qwc (q:=Qa0 p) (l:=l);generalize (match l.findIdx? (Qa0 p) with | some i=>(i:Int) | none => -1)=z at h;refine Gg ?_;refine⟨?_,hx⟩
 congr 1
 rw[Bool.eq_iff_iff,decide_eq_true_iff]
 exact h
section
variable {α:Type} {enc:α→List Value} {sz:Nat} {te:TypeId} {base:Nat} {w w':World} {A:Option Addr} {c:Nat} {l:List α}
theorem Q3c {P:Program} {t ty:TypeId} (ht:P.underlying t=some (.slice te)) {ety:TyE} (hte:Qaa P te=some ety) (hz:(Qq ety.zero).length=sz) (hzo:∀ u∈Qq ety.zero,u.oneCell'=true) (hsz:∀ x,(enc x).length=sz)
 {i:Nat} (hi:i<l.length) {a:Addr} (hown:Own enc sz te base w (some a) c l) {n cap:Nat} (hn:n=l.length-i) {R:Value→World→Prop}
 (h:∀ w',Own enc sz te base w' (some a) c (l.take i)→Only w w' a.block→R (.tuple #[]) w'):Qk3 P (Builtin.clear_ #[t] ty #[.slice (some (a.add (i*sz))) n cap]) w R:=by
 rcases hown.2 with⟨hv',h0⟩ | ⟨g,cp,cur,hv',hb,hg,h1,h2,h3,h4⟩
 · omega
 · have hA:a=⟨g,0,none⟩:=by injection hv' with h _ _;injection h
   have hc:c=cp:=by injection hv'
   subst hA hc;rw[Xv];obtain⟨m,rfl⟩:∃ m,n=m+1:=⟨n-1,by omega⟩;have hle:i*sz+(m+1)*sz=l.length*sz:=by rw[← Nat.add_mul];congr 1;omega
   have hle2:l.length*sz≤c*sz:=Nat.mul_le_mul_right sz h1;have hzs:ety.zero.cells.size=sz:=by rw[← hz,← Qbc];simp
   have hZl:(Builtin.zeroCells ety.zero.cells (m+1)).toList.length=(m+1)*sz:=by simp[Builtin.zeroCells,hzs]
   have hZo:∀ v∈(Builtin.zeroCells ety.zero.cells (m+1)).toList,v.oneCell'=true:=by
    intro v hv;simp only[Builtin.zeroCells,Array.toList_map,List.mem_map] at hv;obtain⟨k,hk,rfl⟩:=hv;have hk2:k<(m+1)*sz:=by simpa [hzs] using hk
    have hpos:0<sz:=by
     rcases Nat.eq_zero_or_pos sz with h | h
     · rw[h] at hk2;simp at hk2
     · exact h
    have hlt:k % ety.zero.cells.size<ety.zero.cells.size:=Nat.mod_lt _ (by omega);rw[getElem!_pos ety.zero.cells (k % ety.zero.cells.size) hlt]
    apply hzo
    rw[← Qbc]
    exact Array.getElem_mem_toList hlt
   have hst:=run_storeCells_at P g (i*sz) te (Builtin.zeroCells ety.zero.cells (m+1)).toList 0 cur w hg (by rw[hZl,h3];omega) hZo;obtain⟨inf,d,hi1,hd,hz1,_⟩:=Xx hte;have hzv:=Qk2 hte w;refine⟨.tuple #[],w.setRow g (cur.toList.take (i*sz+0)++(Builtin.zeroCells ety.zero.cells (m+1)).toList++cur.toList.drop (i*sz+0+(Builtin.zeroCells ety.zero.cells (m+1)).toList.length)).toArray,?_,h _ ?_ (Qng w g _)⟩
   · simp[Builtin.clear_,run_underlying ht,hzv,hst]
   · generalize (Builtin.zeroCells ety.zero.cells (m+1)).toList=Z at hZl
     have hhe:=setRow_heap w g cur (cur.toList.take (i*sz+0)++Z++cur.toList.drop (i*sz+0+Z.length)).toArray te (0,0) hg;have hil:(l.take i).length=i:=by rw[List.length_take];omega
     refine⟨by rw[Qgd hsz],.inr ⟨g,c,_,by rw[hil],hb,hhe,by rw[hil];omega,h2,?_,?_⟩⟩
     · simp[hZl]
       omega
     · rw[hil,Qmx hsz,← h4,List.take_take]
       simp only[List.toList_toArray,Nat.add_zero];rw[List.append_assoc,List.take_append];have e1:(cur.toList.take (i*sz)).length=i*sz:=by simp;omega
       rw[e1,Nat.sub_self,List.take_zero,List.append_nil,List.take_take,Nat.min_self,Nat.min_eq_left (by omega)]
end
theorem Qgt {α:Type} (q:α→Bool) (l:List α) (k:Nat) (h:k<l.length):(l.take (k+1)).filter q=(l.take k).filter q++if q l[k]=true then [l[k]] else []:=by
 rw[Xi l k h,List.filter_append]
 congr 1
 by_cases hq:q l[k]=true
 · simp[hq]
 · simp[hq]
theorem Xbf:Tryz.prog.underlying 24=some (.slice 34):=by kernel_rfl
set_option maxHeartbeats 2000000 in
theorem Q0q (bp:Nat) (p:ByteArray) (l:List Ev) (a:Addr) (c base:Nat) (w:World) (hp:At w bp 9 [.string p]) (hown:Own evC 8 34 base w (some a) c l) (hbp:a.block≠bp) (hl:l.length<1000000) (hany:l.any (Qa0 p)=true) :
 Cal Tryz.prog 83 [.slice (some a) l.length c,thV bp] w fun r w'=>r = .slice (some a) (l.filter fun e => !Qa0 p e).length c∧Own evC 8 34 base w' (some a) c (l.filter fun e => !Qa0 p e)∧Mod (fun k=>k=a.block) w w':=by
 have hle:=hown.le
 obtain⟨i0,hi0,hq0,hb0⟩:∃ i,∃ (h:i<l.length),Qa0 p l[i]=true∧∀ j (hj:j<i),Qa0 p (l[j]'(by omega))=false:=by
  cases h:l.findIdx? (Qa0 p) with
  | none =>
    rw[List.findIdx?_eq_none_iff] at h;obtain⟨x,hx,hq⟩:=List.any_eq_true.1 hany;rw[h x hx] at hq
    cases hq
  | some i =>
    rw[List.findIdx?_eq_some_iff_getElem] at h;obtain⟨h1,h2,h3⟩:=h
    exact⟨i,h1,h2,fun j hj=>by simpa using h3 j hj⟩
 have hfi:l.findIdx? (Qa0 p)=some i0:=by
  rw[List.findIdx?_eq_some_iff_getElem]
  exact⟨hi0,hq0,fun j hj=>by simp[hb0 j hj]⟩
 have hf0:(l.take (i0+1)).filter (fun e => !Qa0 p e)=l.take i0:=by
  rw[Qgt _ l i0 hi0,hq0];simp only[Bool.not_true,Bool.false_eq_true,if_false,List.append_nil];rw[List.filter_eq_self];intro x hx;rw[List.mem_take_iff_getElem] at hx;obtain⟨j,hj,rfl⟩:=hx;rw[hb0 j (by omega)]
  rfl
 refine Fi Tryz.func83 rfl _ rfl rfl (Hh ?_);refine(Qpd bp p l (some a) c w hp (hown.sl Xw) hl).mono ?_;rintro _ w1 ⟨rfl,hx1⟩;rw[hfi];replace hown:=hown.ext hx1;have hp1:=hp.ext hx1;refine Gg ?_;constructor
 · intro h
   simp at h
 intro _;refine Gg ?_;refine⟨_,wrap_succ (by omega),Gg ?_⟩
 refine Qd Qa (fun(x:Nat×Nat×List Ev) w'=>x.1≤l.length∧x.2.1<x.1∧x.2.2.length=l.length∧x.2.2.take x.2.1=(l.take x.1).filter (fun e => !Qa0 p e)∧x.2.2.drop x.1=l.drop x.1∧Own evC 8 34 base w' (some a) c x.2.2∧At w' bp 9 [.string p]∧Mod (fun k=>k=a.block) w w')
  (fun | (j,i,U) => [(0,.slice (some a) l.length c),(1,thV bp),(5,.int .i64 (i:Nat)),(6,.int .i64 (j:Nat))]) (fun x=>l.length-x.1) (i0+1,i0,l) ⟨by simp only;omega,by simp only;omega,rfl,hf0.symm,rfl,hown,hp1,Mod.of_ext hx1⟩ Rr ?_
 clear hp1 hown hx1 hf0 hfi hb0 hq0;rintro ⟨j,i,U⟩ w2 ⟨hj,hij,hUl,hUt,hUd,hown,hp2,hM2⟩;simp only at hj hij hUl hUt hUd hown
 conv=>whnf
 constructor
 · intro hlt
   have hlt:j<l.length:=by simpa using hlt
   have hjU:j<U.length:=by omega
   obtain⟨a',ha',hc⟩:=(hown.sl Xw).get hjU;injection ha' with ha';subst ha'
   have hUj:U[j]=l[j]:=by
    have h1:(U.drop j)[0]? = (l.drop j)[0]? := by rw[hUd]
    rw[List.getElem?_drop,List.getElem?_drop,Nat.add_zero,List.getElem?_eq_getElem hjU,List.getElem?_eq_getElem hlt] at h1
    exact Option.some.inj h1
   have hst:=Qgt (fun e => !Qa0 p e) l j hlt;rw[← hUt] at hst;have hUd2:U.drop (j+1)=l.drop (j+1):=by rw[← List.drop_drop,← List.drop_drop,hUd]
   rw[hUj] at hc;generalize l[j]=v at hc hst;refine Gg ?_;refine⟨a,Ix,Gg ?_⟩;refine⟨evC v,⟨rfl,hc⟩,Gg ?_⟩;intro b7 w3 hn3;refine Gg ?_;refine Qg Qa (e:=ty34) rfl hn3.At rfl rfl rfl (Qd9 v) fun w4 h7 ho4 => ?_
   have h7:At w4 b7 34 (evC v):=h7;have hx24:Ext w2 w4:=ho4.ext hn3.ext (by rw[hn3.block];exact Nat.le_refl _);clear ho4 hn3;refine Gg ?_;refine⟨evC v,⟨rfl,h7.all⟩,Gg ?_⟩;refine(Qn7 bp p v w4 (hp2.ext hx24)).mono ?_;rintro _ w5 ⟨rfl,hx5⟩;have hx25:=hx24.trans hx5;have h75:=h7.ext hx5;replace hown:=hown.ext hx25;replace hp2:=hp2.ext hx25;replace hM2:=hM2.trans (Mod.of_ext hx25);clear hx24 hx5 hx25 h7;refine Gg ?_;constructor
   · intro hq
     have hq:Qa0 p v=false:=by simpa using hq
     rw[hq] at hst;simp only[Bool.not_false,if_true] at hst;refine Gg ?_;refine⟨evC v,⟨rfl,h75.all⟩,Gg ?_⟩;refine⟨a,Ix,Gg ?_⟩;refine Qj0 Qa (e:=ty34) rfl rfl Xw Qd9 (k:=i) (by omega) v rfl hown fun w6 hown6 ho6 => ?_
     refine Gg ?_;refine⟨_,wrap_succ (by omega),Gg ?_⟩;refine⟨_,wrap_succ (by omega),Gg ?_⟩;refine⟨(j+1,i+1,U.set i v),by simp only;omega,⟨by simp only;omega,by simp only;omega,by simp only;rw[List.length_set];exact hUl,?_,?_,hown6,ho6.at_ hp2 (fun e=>hbp e.symm),hM2.trans (Qn ho6 rfl)⟩,Rr⟩
     · simp only
       rw[hst,List.take_set,List.take_add_one,List.getElem?_eq_getElem (by omega:i<U.length)];rw[List.set_append_right _ _ (by rw[List.length_take];omega)]
       simp[List.length_take,Nat.min_eq_left (by omega:i≤U.length)]
     · simp only
       rw[List.drop_set_of_lt (by omega)]
       exact hUd2
   · intro hq
     have hq:Qa0 p v=true:=by simpa using hq
     rw[hq] at hst;simp only[Bool.not_true,Bool.false_eq_true,if_false,List.append_nil] at hst;refine Gg ?_;refine⟨_,wrap_succ (by omega),Gg ?_⟩
     exact⟨(j+1,i,U),by simp only;omega,⟨by simp only;omega,by simp only;omega,hUl,hst.symm,hUd2,hown,hp2,hM2⟩,Rr⟩
 intro hge;have hge:l.length≤j:=by simpa using hge
 rw[List.take_of_length_le hge] at hUt;have hil:i<U.length:=by omega
 have hfl:(l.filter fun e => !Qa0 p e).length=i:=by rw[← hUt,List.length_take];omega
 rw[hfl]
 have hsl:(if((c:Nat):Int).toNat=((i:Nat):Int).toNat then some a else(some a).map (·.add (((i:Nat):Int).toNat*8)))=some (a.add (i*8)):=by
  rw[Int.toNat_natCast,Int.toNat_natCast,if_neg (by omega)]
  rfl
 refine Gg ?_;refine⟨⟨by omega,by omega,by omega,by omega⟩,Gg ?_⟩;rw[hsl];refine Q3c Xbf ty34_ok rfl (by simp[Qq,ty34,Value.oneCell']) Xw hil hown (by simp;omega) fun w6 hown6 ho6 => ?_
 rw[hUt] at hown6;refine Gg ?_;refine⟨⟨by omega,by omega,by omega,by omega⟩,Gg ?_⟩;refine⟨?_,hown6,hM2.trans (Qn ho6 rfl)⟩;have e0:a.add 0=a:=by unfold Addr.add;simp
 simp[e0]
def Qiu (s:WS) (person:ByteArray):List Ev:=s.es.filter fun e => !Qa0 person e
def Qch (width:Int) (s:WS) (person:ByteArray):WS :=
 if s.es.any (Qa0 person)=true then⟨Qiu s person,s.any,s.last,s.ad,Xp s.fg person true,Qo width (Qiu s person)⟩
 else { s with fg:=Xp s.fg person true }
set_option maxHeartbeats 2000000 in
theorem Qwe (w:World) (base p:Nat) (c:Cfg) (hcf:Qii c=true) (s:WS) (col:Nat→Nat) (h:Qc9 w base p c s col) (hg:Gl w) (hml:∀ x∈s.es,Xn x=true) (hr:Rise s.es) (hl:s.es.length<1000000) (person:ByteArray) :
 Cal Tryz.prog 43 [.pointer (some ⟨p,0,none⟩),.string person] w fun r w'=>r = .tuple #[]∧∃ col',Qc9 w' base p c (Qch c.width s person) col'∧(∀ k,col' k≠0→col k≠0∨w.heap.size≤k)∧Mod (fun k=>col k≠0) w w':=by
 obtain⟨⟨q,A,cap,h⟩,hz⟩:=h;have hlow:∀ k,col k≠0→10≤k:=fun k hk=>by have:=h.low.2 k hk;have:=h.low.1;omega
 refine Fi Tryz.func43 rfl _ rfl rfl (Hh ?_);intro b3 w1 hn1;have hb1:At w1 b3 9 [.string person]:=hn1.At;have e1:=hn1.block;have h1:=h.ext hn1.ext;have hx1:=hn1.ext;have hc3:col b3=0:=hz b3 (by omega);clear hn1 h;refine Gg ?_;refine Dr .same [0,1,2,3,4] [5] (Hh ?_);have hxd:Ext w1 w1.drew:=(Ext.refl w1).drew;replace h1:=h1.ext hxd;replace hb1:=hb1.ext hxd;replace hx1:=hx1.trans hxd;generalize w1.drew=w2 at h1 hb1 hx1 ⊢;clear hxd;refine⟨_,h1.head.one rfl,Hh ?_⟩;refine⟨.string person,hb1.one0,Hh ?_⟩;refine Xg Qob (Xa Qad) h1.forg person _ fun w3 hm3 ho3 => ?_
 rw[Xq] at hm3;have h3:=h1.forgm ho3 hm3;have hbf:col q.bf=8:=h1.cols.2.2.1;replace hb1:=ho3.at_ hb1 (fun e=>by rw[e] at hc3;omega);have hM3:Mod (fun k=>col k≠0) w w3:=(Mod.of_ext hx1).trans (Qn ho3 (by show col q.bf≠0;omega));clear h1 hm3 ho3 hx1;refine Gg ?_;refine⟨_,h3.head.one rfl,Hh ?_⟩;refine Gg ?_;refine(Q0p b3 person s.es A cap w3 hb1 (h3.evs.sl Xw) hl).mono ?_;rintro _ w4 ⟨rfl,hx4⟩;replace h3:=h3.ext hx4;replace hb1:=hb1.ext hx4;replace hM3:=hM3.trans (Mod.of_ext hx4);clear hx4;have sM:=hM3.size;refine Gg ?_;constructor
 · intro hq
   have hq:s.es.any (Qa0 person)=false:=by simpa using hq
   have hF:Qch c.width s person={ s with fg:=Xp s.fg person true }:=by unfold Qch;rw[if_neg (by rw[hq];decide)]
   rw[hF];refine Gg ?_
   exact⟨rfl,col,⟨⟨q,A,cap,h3⟩,fun k hk=>hz k (by omega)⟩,fun k hk => .inl hk,hM3⟩
 intro hq;have hq:s.es.any (Qa0 person)=true:=by simpa using hq
 have hF:Qch c.width s person=⟨Qiu s person,s.any,s.last,s.ad,Xp s.fg person true,Qo c.width (Qiu s person)⟩:=by unfold Qch;rw[if_pos hq]
 obtain⟨a,rfl⟩:∃ a,A=some a:=by
  obtain⟨x,hx,_⟩:=List.any_eq_true.1 hq;obtain⟨i,hi,_⟩:=List.getElem_of_mem hx;obtain⟨a,ha,_⟩:=(h3.evs.sl Xw).get hi
  exact⟨a,ha⟩
 have hca:col a.block=9:=h3.cols.2.2.2 a rfl;have hcp:col p=6:=h3.cols.1;have hcb:col q.ba=7:=h3.cols.2.1;rw[hF];refine Gg ?_;refine⟨_,h3.head.one rfl,Hh ?_⟩;refine Gg ?_;refine(Q0q b3 person s.es a cap 0 w4 hb1 h3.evs (fun e=>by rw[e] at hca;omega) hl hq).mono ?_;rintro _ w5 ⟨rfl,hown5,hM5⟩;have hU:(s.es.filter fun e => !Qa0 person e)=Qiu s person:=rfl;rw[hU] at hown5 ⊢;have hUm:∀ x∈Qiu s person,Xn x=true:=fun x hx=>hml x (List.mem_filter.1 hx).1
 have hUr:Rise (Qiu s person):=hr.sublist List.filter_sublist;have hUl:(Qiu s person).length<1000000:=by have:=List.length_filter_le (fun e => !Qa0 person e) s.es;unfold Qiu;omega
 generalize Qiu s person=U at hown5 hUm hUr hUl ⊢;have hp5:=h3.head.mod hM5 (fun e=>by rw[e] at hcp;omega);have hba5:=h3.added.mod hM5 (fun e=>by rw[e] at hcb;omega);have hbf5:=h3.forg.mod hM5 (fun e=>by rw[e] at hbf;omega);replace hM3:=hM3.trans (hM5.mono fun k _ hk=>by rw[hk];show col a.block≠0;omega);have hlw:=h3.low;clear h3 hM5 hb1;refine Gg ?_;refine Qg Qa (e:=ty24) (off:=6) rfl hp5 rfl rfl rfl (by simp[Qq,Value.oneCell']) fun w6 h6 ho6 => ?_
 have h6:At w6 p 69 (wC c (some a) U.length cap s.any s.last q):=h6;replace hba5:=hba5.only ho6 (fun e=>by rw[e] at hcb;omega);replace hbf5:=hbf5.only ho6 (fun e=>by rw[e] at hbf;omega)
 replace hown5:=hown5.keep fun a' ha'=>by
  injection ha' with ha';subst ha'
  exact ho6.block _ (fun e=>by rw[e] at hca;omega)
 replace hM3:=hM3.trans (Qn ho6 (by show col p≠0;omega));have l6:=h6.lt;have lba:=hba5.lt;have lbf:=hbf5.lt;have la:=(hown5.block rfl).2;clear hp5 ho6;refine Gg ?_;refine(Qo7 w6 p c _ _ _ _ _ _ _ _ _ _ _ _ _ _ _ _ _ _ h6).mono ?_;rintro _ w7 ⟨rfl,pc,pw,pd,pp,ps,colN,h7,hcts,hcolN,hM7⟩;have s7:=hM7.size
 have hN:∀ k,k<w6.heap.size→colN k=0:=fun k hk=>by
  cases hq:decide (colN k=0) with
  | true=>simpa using hq
  | false=>have:=hcolN k (by simpa using hq);omega
 obtain⟨col2,hcol2⟩:∃ f:Nat→Nat,∀ k,f k=if k<w6.heap.size then(if 6≤col k then col k else 0) else colN k:=⟨_,fun k=>rfl⟩
 have c2:∀ k,k<w6.heap.size→6≤col k→col2 k=col k:=fun k h1 h2=>by rw[hcol2,if_pos h1,if_pos h2]
 have hba7:=hba5.mod hM7 (fun e=>by rw[e] at hcb;omega);have hbf7:=hbf5.mod hM7 (fun e=>by rw[e] at hbf;omega)
 have hown7:=hown5.keep (w':=w7) fun a' ha'=>by
  injection ha' with ha';subst ha'
  exact hM7.block _ la (fun e=>by rw[e] at hca;omega)
 have hL7:Qbr w7 base p c ⟨U,s.any,s.last,s.ad,Xp s.fg person true,Qyn⟩ col2 ⟨q.ba,q.bf,pc,pw,pd,pp,ps⟩ (some a) cap:=by
  refine⟨⟨hlw.1,fun k hk => ?_⟩,h7,⟨by rw[c2 _ l6 (by omega)];exact hcp,by rw[c2 _ lba (by omega)];exact hcb,by rw[c2 _ lbf (by omega)];exact hbf,fun a' ha'=>by injection ha' with ha';subst ha';rw[c2 _ la (by omega)];exact hca⟩,hba7,hbf7,hown7,(hcts q.ba q.bf).keep fun k _ hk=>⟨rfl,?_⟩⟩
  · rw[hcol2] at hk
    split at hk
    · split at hk
      · exact hlw.2 k hk
      · exact absurd rfl hk
    · have:=hlw.2 p (by omega);omega
  · have hk6:¬ k<w6.heap.size:=fun hlt=>by have:=hN k hlt;omega
    rw[hcol2,if_neg hk6]
 have hz7:∀ k,w7.heap.size≤k→col2 k=0:=fun k hk=>by
  rw[hcol2,if_neg (by omega)]
  cases hq:decide (colN k=0) with
  | true=>simpa using hq
  | false=>have:=hcolN k (by simpa using hq);omega
 have hc27:∀ k,col2 k≠0→col k≠0∨w.heap.size≤k:=fun k hk=>by
  rw[hcol2] at hk
  split at hk
  · split at hk
    · exact .inl hk
    · exact absurd rfl hk
  · have:=hM3.size;right;omega
 have hM37:Mod (fun k=>col k≠0) w w7:=hM3.trans (hM7.mono fun k _ hk=>by rw[hk];show col p≠0;omega);have hg7:Gl w7:=hg.mod hM37 hlow;have c2a:col2 a.block=9:=by rw[c2 _ la (by omega)];exact hca
 have la7:a.block<w7.heap.size:=by omega
 have hsl7:=hown7.sl Xw;clear hcts hcolN hM7 hN hcol2 c2 hba5 hbf5 hba7 hbf7 hown5 hown7 h6 h7 hM3;refine Gg ?_;refine⟨_,hL7.head.one rfl,Hh ?_⟩;refine Gg ?_
 refine Qd Qa (fun(x:Nat×(Nat→Nat)) w'=>x.1≤U.length∧Qc9 w' base p c ⟨U,s.any,s.last,s.ad,Xp s.fg person true,Qo c.width (U.take x.1)⟩ x.2∧SlE w' (some a) U∧x.2 a.block=9∧a.block<w'.heap.size∧(∀ k,x.2 k≠0→col k≠0∨w.heap.size≤k)∧Mod (fun k=>col k≠0) w w'∧Gl w')
  (fun x => [(0,.pointer (some ⟨p,0,none⟩)),(34,.slice (some a) U.length cap),(35,.int .i64 U.length),(36,.int .i64 (x.1:Nat))]) (fun x=>U.length-x.1) (0,col2) ⟨Nat.zero_le _,⟨⟨_,_,_,hL7⟩,hz7⟩,hsl7,c2a,la7,hc27,hM37,hg7⟩ ⟨rfl,rfl,rfl,rfl,trivial⟩ ?_
 clear hL7 hz7 hsl7 c2a la7 hc27 hM37 hg7;rintro ⟨k,colk⟩ w8 ⟨hk,hC,hsl,hka,hla,hcc,hM,hg8⟩;simp only at hk hC hka hcc
 conv=>whnf
 constructor
 · intro hlt
   have hlt:k<U.length:=by simpa using hlt
   obtain⟨a',ha',hce⟩:=hsl.get hlt;injection ha' with ha';subst ha';have hme:=hUm _ (List.getElem_mem hlt);have htk:=Xi U k hlt;have hri:=Qt3 hUr (k+1);rw[htk] at hri;generalize U[k]=e at hce hme htk hri;have hcn:=Qbn c.width (U.take k) e;rw[← htk] at hcn;refine Gg ?_;refine⟨a,Ix,Gg ?_⟩;refine⟨evC e,⟨rfl,hce⟩,Gg ?_⟩;intro b6 w9 hn9;refine Gg ?_;have e9:=hn9.block;refine Qg Qa (e:=ty34) rfl hn9.At rfl rfl rfl (Qd9 e) fun wa ha hoa => ?_
   have ha:At wa b6 34 (evC e):=ha;have hxa:Ext w8 wa:=hoa.ext hn9.ext (by omega);clear hoa hn9;refine Gg ?_;refine⟨evC e,⟨rfl,ha.all⟩,Gg ?_⟩;refine(Qpa wa base p c hcf _ colk (hC.ext hxa) (hg8.ext hxa) (U.take k) rfl (fun x hx=>hUm x (List.mem_of_mem_take hx)) e hme hri (by rw[List.length_take];omega)).mono ?_;rintro _ wb ⟨rfl,colb,hCb,hcb8,hMb⟩;have sa:=hxa.size;have sb:=hMb.size
   have hlk:∀ j,colk j≠0→10≤j:=fun j hj=>by
    obtain⟨q',A',c',hL'⟩:=hC.1;have:=hL'.low.2 j hj;have:=hL'.low.1;omega
   have s8:=hM.size;refine Gg ?_;refine⟨_,wrap_succ (by omega),Gg ?_⟩;refine⟨(k+1,colb),by simp only;omega,⟨by simp only;omega,?_,Qbx (hsl.ext hxa) fun a' ha' => ?_,(hcb8 _ (by omega)).trans hka,by omega,fun j hj => ?_,Xd (hM.trans (Mod.of_ext hxa)) (hMb.mono fun j _ hj=>hcc j (by omega)),(hg8.ext hxa).mod hMb fun j hj=>hlk j (by omega)⟩,Rr⟩
   · simp only
     rw[hcn]
     exact hCb
   · injection ha' with ha'
     subst ha'
     exact hMb.block _ (by omega) (by rw[hka];omega)
   · have hj:colb j≠0:=hj
     by_cases hjl:j<wa.heap.size
     · rw[hcb8 j hjl] at hj
       exact hcc j hj
     · right;omega
 · intro hge
   have hge:U.length≤k:=by simpa using hge
   rw[List.take_of_length_le hge] at hC;refine Gg ?_
   exact⟨rfl,colk,hC,hcc,hM⟩
theorem Q3e {a b:Ev} (h:Qgs a b=1):Xc b a=true:=by
 cases hl:Xc b a with
 | true=>rfl
 | false =>
   cases hr:Xc a b with
   | true =>
     have:=Qcs a b;rw[hr,h] at this
     simp at this
   | false =>
     have:=(Qi7 a b).2 (Qfx hr hl);omega
structure Qsh (c:Cfg) (s:WS):Prop where
 ct:s.ct=Qo c.width s.es
 may:∀ x∈s.es,Xn x=true
 rise:Rise s.es
 last:s.any=true→∀ x∈s.es,x=s.last∨Xc x s.last=true
 none:s.any=false→s.es = []
theorem Xab (c:Cfg):Qsh c WS0:=⟨rfl,by simp[WS0],List.Pairwise.nil,by simp[WS0],by simp[WS0]⟩
def Qol (s:WS) (e:Ev):Int :=
 if Xn e=false then 1
 else if(s.any && !decide (Qgs e s.last=1))=true then 10
 else if(Qe s.ad (Q85 e)).getD false=true then 7
 else if((Qe s.fg e.person).getD false && !decide (e.kind=14))=true then 12
 else 0
def addN (width:Int) (s:WS) (e:Ev):WS:=if e.kind=14 then Qch width (Qtx width s e) e.person else Qtx width s e
def Qvj (width:Int) (s:WS) (e:Ev):WS:=if Qol s e=0 then addN width s e else s
theorem Qsh.ahead {c:Cfg} {s:WS} (h:Qsh c s) {e:Ev} (hr:(s.any && !decide (Qgs e s.last=1))=false):∀ x∈s.es,Xc x e=true:=by
 intro x hx
 cases ha:s.any with
 | false=>rw[h.none ha] at hx;simp at hx
 | true =>
   rw[ha] at hr;have hc:Qgs e s.last=1:=by simpa using hr
   have hl:=Q3e hc;rcases h.last ha x hx with h | h
   · rw[h];exact hl
   · exact Qpk h hl
theorem Qsh.put {c:Cfg} {s:WS} (h:Qsh c s) {e:Ev} (hm:Xn e=true) (hr:(s.any && !decide (Qgs e s.last=1))=false):Qsh c (Qtx c.width s e):=by
 have ha:=h.ahead hr;refine⟨?_,?_,?_,fun _ => ?_,fun h=>by cases h⟩
 · show Qdy c.width s.ct e=Qo c.width (s.es ++ [e])
   rw[Qbn,h.ct]
 · intro x hx
   rcases List.mem_append.1 (show x∈s.es ++ [e] from hx) with hx | hx
   · exact h.may x hx
   · rw[List.mem_singleton] at hx;rw[hx];exact hm
 · show Rise (s.es ++ [e])
   unfold Rise;rw[List.pairwise_append];refine⟨h.rise,List.pairwise_singleton _ _,fun a ha' b hb => ?_⟩;rw[List.mem_singleton] at hb;rw[hb]
   exact ha a ha'
 · intro x hx
   rcases List.mem_append.1 (show x∈s.es ++ [e] from hx) with hx | hx
   · exact .inr (ha x hx)
   · rw[List.mem_singleton] at hx;exact .inl hx
theorem Qsh.forget {c:Cfg} {s:WS} (h:Qsh c s) (person:ByteArray):Qsh c (Qch c.width s person):=by
 unfold Qch
 split
 · refine⟨rfl,fun x hx=>h.may x (List.mem_filter.1 hx).1,h.rise.sublist List.filter_sublist,fun ha x hx=>h.last ha x (List.mem_filter.1 hx).1,fun ha => ?_⟩
   show Qiu s person = []
   unfold Qiu;rw[h.none ha]
   rfl
 · exact⟨h.ct,h.may,h.rise,h.last,h.none⟩
theorem Qsh.add {c:Cfg} {s:WS} (h:Qsh c s) (e:Ev):Qsh c (Qvj c.width s e):=by
 unfold Qvj
 split
 · next h0 =>
   unfold Qol at h0
   split at h0
   · cases h0
   · next hm =>
     split at h0
     · cases h0
     · next hr =>
       have hm:Xn e=true:=by simpa using hm
       have hr:(s.any && !decide (Qgs e s.last=1))=false:=by simpa using hr
       unfold addN
       split
       · exact(h.put hm hr).forget _
       · exact h.put hm hr
 · exact h
set_option maxHeartbeats 2000000 in
theorem Qyt (w:World) (base p:Nat) (c:Cfg) (hcf:Qii c=true) (s:WS) (col:Nat→Nat) (h:Qc9 w base p c s col) (hg:Gl w) (hI:Qsh c s) (hl:s.es.length<100000) (e:Ev) (hes:e.text.size<4000000000) :
 Cal Tryz.prog 18 [.pointer (some ⟨p,0,none⟩),evV e] w fun r w'=>r = .int .i64 (Qol s e)∧∃ col',Qc9 w' base p c (Qvj c.width s e) col'∧(∀ k,col' k≠0→col k≠0∨w.heap.size≤k)∧Mod (fun k=>col k≠0) w w':=by
 have hlow:∀ k,col k≠0→10≤k:=fun k hk=>by
  obtain⟨q,A,cap,hL⟩:=h.1;have:=hL.low.2 k hk;have:=hL.low.1;omega
 have hz:=h.2;refine Fi Tryz.func18 rfl _ rfl rfl (Hh ?_);intro b3 w1 hn1;have hb:At w1 b3 34 (evC e):=hn1.At;have e1:=hn1.block;have hx:=hn1.ext;have hc3:col b3=0:=hz b3 (by omega);clear hn1;refine Gg ?_;refine⟨evC e,⟨rfl,hb.all⟩,Gg ?_⟩;refine(Qh7 e w1 (hg.ext hx) hes).mono ?_;rintro _ w2 ⟨rfl,hx2⟩;replace hb:=hb.ext hx2;replace hx:=hx.trans hx2;clear hx2
 have same:∀ {w':World},Ext w w'→Qol s e≠0→∃ col',Qc9 w' base p c (Qvj c.width s e) col'∧(∀ k,col' k≠0→col k≠0∨w.heap.size≤k)∧Mod (fun k=>col k≠0) w w':=fun hx hne=>by
  have:Qvj c.width s e=s:=if_neg hne;rw[this]
  exact⟨col,h.ext hx,fun k hk => .inl hk,Mod.of_ext hx⟩
 refine Gg ?_;constructor
 · intro hm
   have hm:Xn e=false:=by simpa using hm
   have hR:Qol s e=1:=by unfold Qol;rw[if_pos hm]
   refine Gg ?_
   exact⟨by rw[hR],same hx (by rw[hR];decide)⟩
 intro hm;have hm:Xn e=true:=by simpa using hm
 have hm':¬ Xn e=false:=by rw[hm];decide
 obtain⟨⟨q,A,cap,hL⟩,_⟩:=h.ext hx;refine Gg ?_;refine Dr .same [0,1,2,3,4,5,6,7,8,9] [10,11,12,13] (Hh ?_);have hxd:Ext w2 w2.drew:=(Ext.refl w2).drew;replace hL:=hL.ext hxd;replace hb:=hb.ext hxd;replace hx:=hx.trans hxd;generalize w2.drew=w3 at hL hb hx ⊢;clear hxd;refine⟨_,hL.head.one rfl,Hh ?_⟩;refine⟨evC e,fun _=>⟨rfl,hb.all⟩,Hh ?_⟩;refine⟨evC s.last,fun _=>⟨rfl,At.sub (pre:=(wC c A s.es.length cap s.any s.last q).take 8) (post:=(wC c A s.es.length cap s.any s.last q).drop 16) hL.head⟩,Hh ?_⟩;refine⟨Unit,fun _=>(.int .i64 (Qgs e s.last)),fun _ w'=>Ext w3 w',(),fun hg=>((Qbh e s.last w3)).mono fun r w' h=>⟨(),h.1,h.2⟩,?_⟩;intro _ w4 h2
 have hx4:Ext w3 w4:=by
  rcases h2 with⟨_,h⟩ | ⟨_,h⟩
  · exact h
  · rw[h];exact Ext.refl _
 clear h2
 conv=>whnf
 replace hL:=hL.ext hx4;replace hb:=hb.ext hx4;replace hx:=hx.trans hx4;clear hx4;refine Gg ?_;constructor
 · intro hr
   have hR:Qol s e=10:=by unfold Qol;rw[if_neg hm',if_pos hr]
   refine Gg ?_
   exact⟨by rw[hR],same hx (by rw[hR];decide)⟩
 intro hr;have hr:(s.any && !decide (Qgs e s.last=1))=false:=hr;have hr':¬ (s.any && !decide (Qgs e s.last=1))=true:=by rw[hr];decide
 refine Gg ?_;refine Dr .same [0,1,2,3,4,5,6,7,8,9,10] [] (Hh ?_);have hxd:Ext w4 w4.drew:=(Ext.refl w4).drew;replace hL:=hL.ext hxd;replace hb:=hb.ext hxd;replace hx:=hx.trans hxd;generalize w4.drew=w5 at hL hb hx ⊢;clear hxd;refine⟨_,hL.head.one rfl,Hh ?_⟩;refine⟨_,hb.one rfl,Hh ?_⟩;refine⟨_,hb.one rfl,Hh ?_⟩;have hlk:=Qb0 Xcc Qy9 (e:=ty4) ty4_ok (cl := .same) Qx hL.added (Q85 e);rw[show ty4.zero=Value.bool false from rfl,Qbd] at hlk;refine⟨_,hlk,Gg ?_⟩;constructor
 · intro ha
   have hR:Qol s e=7:=by unfold Qol;rw[if_neg hm',if_neg hr',if_pos ha]
   refine Gg ?_
   exact⟨by rw[hR],same hx (by rw[hR];decide)⟩
 intro ha;have ha':¬ (Qe s.ad (Q85 e)).getD false=true:=by rw[ha];decide
 refine Gg ?_;refine Dr .same [0,1,2,3,4,5,6,7,8,9,10,11,12] [] (Hh ?_);have hxd:Ext w5 w5.drew:=(Ext.refl w5).drew;replace hL:=hL.ext hxd;replace hb:=hb.ext hxd;replace hx:=hx.trans hxd;generalize w5.drew=w6 at hL hb hx ⊢;clear hxd hlk;refine⟨_,hL.head.one rfl,Hh ?_⟩;refine⟨_,hb.one rfl,Hh ?_⟩;have hlk:=Qb0 Qob (Xa Qad) (e:=ty4) ty4_ok (cl := .same) Qx hL.forg e.person;rw[show ty4.zero=Value.bool false from rfl,Qbd] at hlk;refine⟨_,hlk,Gg ?_⟩;refine⟨.int .i64 e.kind,fun _=>hb.one rfl,Gg ?_⟩;constructor
 · intro hf
   have hR:Qol s e=12:=by unfold Qol;rw[if_neg hm',if_neg hr',if_neg ha',if_pos hf]
   refine Gg ?_
   exact⟨by rw[hR],same hx (by rw[hR];decide)⟩
 intro hf;have hf':¬ ((Qe s.fg e.person).getD false && !decide (e.kind=14))=true:=by rw[show ((Qe s.fg e.person).getD false && !decide (e.kind=14))=false from hf];decide
 have hR:Qol s e=0:=by unfold Qol;rw[if_neg hm',if_neg hr',if_neg ha',if_neg hf']
 clear hlk same;refine Gg ?_;refine⟨_,hL.head.one rfl,Hh ?_⟩;refine Gg ?_;constructor
 · intro hq
   have:(1048576:Int)≤s.es.length:=by simpa using hq
   omega
 intro _;refine Gg ?_;refine⟨evC e,⟨rfl,hb.all⟩,Gg ?_⟩;have hIp:=hI.put hm hr;refine(Qzs w6 base p c hcf s col (h.ext hx) (hg.ext hx) hI.ct hI.may e hm (show Rise (s.es ++ [e]) from hIp.rise) (by omega)).mono ?_;rintro _ w7 ⟨rfl,col7,h7,hc7,hM7⟩;have s6:=hx.size;have hb7:=hb.mod hM7 (by simp[hc3]);have l3:=hb.lt;have hW:Qvj c.width s e=addN c.width s e:=if_pos hR;have hM7':Mod (fun k=>col k≠0) w w7:=(Mod.of_ext hx).trans hM7
 have hcc:∀ k,col7 k≠0→col k≠0∨w.heap.size≤k:=fun k hk=>by
  by_cases hlt:k<w6.heap.size
  · rw[hc7 k hlt] at hk;exact .inl hk
  · right;omega
 rw[hR,hW];refine Gg ?_;refine⟨_,hb7.one rfl,Hh ?_⟩;refine Gg ?_;constructor
 · intro hk
   have hk:e.kind=14:=by simpa using hk
   have hN:addN c.width s e=Qch c.width (Qtx c.width s e) e.person:=if_pos hk;rw[hN];refine Gg ?_;refine⟨_,hb7.one rfl,Hh ?_⟩;refine Gg ?_;have s7:=hM7'.size;refine(Qwe w7 base p c hcf (Qtx c.width s e) col7 h7 (hg.mod hM7' hlow) hIp.may hIp.rise (by show (s.es ++ [e]).length<1000000;rw[List.length_append,List.length_singleton];omega) e.person).mono ?_;rintro _ w8 ⟨rfl,col8,h8,hc8,hM8⟩;refine Gg ?_
   exact⟨rfl,col8,h8,fun k hk=>(hc8 k hk).elim (hcc k) fun h=>by right;omega,Xd hM7' (hM8.mono fun k _ hk=>hcc k hk)⟩
 · intro hk
   have hk:¬ e.kind=14:=by simpa using hk
   have hN:addN c.width s e=Qtx c.width s e:=if_neg hk;rw[hN];refine Gg ?_
   exact⟨rfl,col7,h7,hcc,hM7'⟩
theorem Qdu {l:List Ev} {p:ByteArray}:Qci l p=true↔∃ x∈l,x.kind=14∧x.person=p:=by
 unfold Qci;rw[List.any_eq_true]
 simp
theorem Qwf {l l':List Ev} (h:∀ x,x.kind=14→(x∈l↔x∈l')) (p:ByteArray):Qci l p=Qci l' p:=by
 rw[Bool.eq_iff_iff,Qdu,Qdu];constructor <;> rintro ⟨x,hx,h1,h2⟩
 · exact⟨x,(h x h1).1 hx,h1,h2⟩
 · exact⟨x,(h x h1).2 hx,h1,h2⟩
theorem Xae {l l':List Ev} (h:∀ x,x.kind=14→(x∈l↔x∈l')) (e:Ev):Qcu l e=Qcu l' e:=by
 unfold Qcu;rw[Qwf h]
theorem Q3z {l:List Ev} {e:Ev} (h:e.kind=14):Qcu l e=true:=by unfold Qcu;rw[decide_eq_true h,Bool.or_true]
theorem Qpj {l:List Ev} {x:Ev} (h:x.kind=14):x∈Qe4 l↔x∈l:=by
 unfold Qe4;rw[List.mem_filter]
 exact⟨fun h=>h.1,fun h'=>⟨h',Q3z h⟩⟩
theorem Q05 {l:List Ev}:∀ x∈Qe4 l,Qcu (Qe4 l) x=true:=fun x hx=>by
 rw[Xae (fun y hy=>Qpj hy)]
 exact(List.mem_filter.1 hx).2
theorem Qth {l:List Ev} (h:∀ x∈l,Qcu l x=true):Qe4 l=l:=List.filter_eq_self.2 h
def Qw0 (z:List Ev) (f:Ev):List Ev:=z.filter fun e => !decide (e.person=f.person)||decide (e.kind=14)
theorem Qwo {z:List Ev} {f:Ev} (hz:∀ x∈z,Qcu z x=true) (hf:f.kind=14):Qe4 (z ++ [f])=Qw0 z f ++ [f]:=by
 unfold Qe4 Qw0;rw[List.filter_append]
 congr 1
 · refine List.filter_congr fun x hx => ?_
   have h1:=hz x hx;rw[Bool.eq_iff_iff];unfold Qcu at h1 ⊢;simp only[Bool.or_eq_true,Bool.not_eq_true',decide_eq_true_eq,decide_eq_false_iff_not] at h1 ⊢
   by_cases hk:x.kind=14
   · simp[hk]
   · simp only[hk,or_false] at h1 ⊢
     constructor
     · intro h2 he
       rw[Qdu.2 ⟨f,by simp,hf,he.symm⟩] at h2;cases h2
     · intro hne
       cases hg:Qci (z ++ [f]) x.person with
       | false=>rfl
       | true =>
         obtain⟨y,hy,h3,h4⟩:=Qdu.1 hg;rcases List.mem_append.1 hy with hy | hy
         · rw[Qdu.2 ⟨y,hy,h3,h4⟩] at h1;cases h1
         · rw[List.mem_singleton.1 hy] at h4;exact absurd h4.symm hne
 · rw[List.filter_cons,Q3z hf];rfl
def Xch (o:Option Ev) (x:Ev):Bool:=match o with | some y => !Xc y x | .none=>false
def Q6c (all inn:List Ev) (x:Ev):Int :=
 if Xn x=false then 1
 else if Xch all.getLast? x=true then 10
 else if all.any (fun e=>decide (idE e=idE x))=true then 7
 else if(Qci inn x.person && !decide (x.kind=14))=true then 12
 else 0
structure Qp7 (c:Cfg) (s:WS) (all:List Ev):Prop where
 inv:Qsh c s
 nil:s.any=false→all = []
 last:s.any=true→all.getLast? = some s.last
 ad:∀ i,(Qe s.ad i).getD false=all.any (fun e=>decide (idE e=i))
 fg:∀ p,(Qe s.fg p).getD false=Qci s.es p
 left:∀ x∈s.es,Qcu s.es x=true
theorem Q65 (e y:Ev):(!decide (Qgs e y=1)) = !Xc y e:=by
 cases h:Xc y e with
 | true=>rw[Qqh h];rfl
 | false =>
   cases h2:decide (Qgs e y=1) with
   | false=>rfl
   | true=>rw[Q3e (of_decide_eq_true h2)] at h;cases h
theorem Qp7.answer {c:Cfg} {s:WS} {all:List Ev} (h:Qp7 c s all) (x:Ev):Qol s x=Q6c all s.es x:=by
 unfold Qol Q6c
 have h1:(s.any && !decide (Qgs x s.last=1))=Xch all.getLast? x:=by
  cases ha:s.any with
  | false=>rw[h.nil ha];rfl
  | true=>rw[h.last ha,Bool.true_and,Q65];rfl
 rw[h1,h.ad,h.fg]
 rfl
theorem add_zero (c:Cfg):Qp7 c WS0 []:=⟨Xab c,fun _=>rfl,fun h=>(by cases h),fun _=>rfl,fun _=>rfl,fun x hx=>(by cases hx)⟩
theorem Qp7.step {c:Cfg} {s:WS} {all:List Ev} (h:Qp7 c s all) {x:Ev} (h0:Qol s x=0):Qp7 c (Qvj c.width s x) (all ++ [x])∧(Qvj c.width s x).es=Qe4 (s.es ++ [x]):=by
 have hW:Qvj c.width s x=addN c.width s x:=if_pos h0;have hw:=h.inv.add x
 have hg:(Qci s.es x.person && !decide (x.kind=14))=false:=by
  rw[h.answer] at h0;unfold Q6c at h0
  split at h0
  · cases h0
  split at h0
  · cases h0
  split at h0
  · cases h0
  split at h0
  · cases h0
  · next hq=>simpa using hq
 have hlast:(all ++ [x]).getLast? = some x:=by simp
 have hne:¬ (all ++ [x] = []):=by simp
 have had:∀ i,(Qe (Xp s.ad (Q85 x) true) i).getD false=(all ++ [x]).any (fun e=>decide (idE e=i)):=fun i=>by
  rw[X4,List.any_append,← h.ad]
  by_cases hi:i=Q85 x
  · rw[if_pos hi]
    have:idE x=i:=hi.symm
    simp[this]
  · rw[if_neg hi]
    have:¬ idE x=i:=fun e=>hi e.symm
    simp[this]
 rw[hW] at hw ⊢;unfold addN at hw ⊢
 by_cases hk:x.kind=14
 · rw[if_pos hk] at hw ⊢
   have hE:(Qch c.width (Qtx c.width s x) x.person).es=Qe4 (s.es ++ [x]):=by
    have h1:Qiu (Qtx c.width s x) x.person=Qe4 (s.es ++ [x]):=by
     rw[Qwo h.left hk];unfold Qiu Qw0 Qtx;simp only[List.filter_append,List.filter_cons,List.filter_nil];unfold Qa0
     simp[hk]
    unfold Qch
    split
    · exact h1
    · next hn =>
      rw[← h1];unfold Qiu
      symm
      rw[List.filter_eq_self];intro e he;have hn:(Qtx c.width s x).es.any (Qa0 x.person)=false:=by simpa using hn
      rw[List.any_eq_false] at hn
      simpa using hn e he
   refine⟨⟨hw,?_,?_,?_,?_,?_⟩,hE⟩
   · unfold Qch;split <;> exact fun h=>by cases h
   · unfold Qch;split <;> exact fun _=>hlast
   · unfold Qch;split <;> exact had
   · intro p
     rw[hE]
     have h1:(Qe (Qch c.width (Qtx c.width s x) x.person).fg p).getD false=(Qe (Xp s.fg x.person true) p).getD false:=by
      unfold Qch;split <;> rfl
     rw[h1,X4];have h2:Qci (Qe4 (s.es ++ [x])) p=Qci (s.es ++ [x]) p:=Qwf (fun y hy=>Qpj hy) p;rw[h2]
     by_cases hp:p=x.person
     · rw[if_pos hp]
       exact(Qdu.2 ⟨x,by simp,hk,hp.symm⟩).symm
     · rw[if_neg hp,h.fg]
       unfold Qci;rw[List.any_append];have:¬ x.person=p:=fun e=>hp e.symm
       simp[this]
   · rw[hE];exact Q05
 · rw[if_neg hk] at hw ⊢
   have hgone:Qci s.es x.person=false:=by simpa [hk] using hg
   have hG:∀ p,Qci (s.es ++ [x]) p=Qci s.es p:=Qwf fun y hy=>by
    rw[List.mem_append,List.mem_singleton]
    exact⟨fun h=>h.elim id fun e=>absurd (e ▸ hy) hk,.inl⟩
   have hK:∀ y∈s.es ++ [x],Qcu (s.es ++ [x]) y=true:=fun y hy=>by
    unfold Qcu;rw[hG];rcases List.mem_append.1 hy with hy | hy
    · exact h.left y hy
    · rw[List.mem_singleton.1 hy,hgone];rfl
   refine⟨⟨hw,fun h=>(by cases h),fun _=>hlast,had,fun p => ?_,hK⟩,(Qth hK).symm⟩;show (Qe s.fg p).getD false=Qci (s.es ++ [x]) p
   rw[hG,h.fg]
theorem Q30 {z:List Ev} (h:∀ x∈z,Qcu z x=true) (k:Nat):∀ x∈z.take k,Qcu (z.take k) x=true:=fun x hx=>by
 have h1:=h x (List.mem_of_mem_take hx);unfold Qcu at h1 ⊢;rw[Bool.or_eq_true] at h1 ⊢;refine h1.imp (fun h => ?_) id;rw[Bool.not_eq_true'] at h ⊢
 cases hg:Qci (z.take k) x.person with
 | false=>rfl
 | true =>
   obtain⟨y,hy,h3,h4⟩:=Qdu.1 hg;rw[Qdu.2 ⟨y,List.mem_of_mem_take hy,h3,h4⟩] at h;cases h
theorem Q6d {z:List Ev} (hm:∀ x∈z,Xn x=true) (hr:Rise z) (hi:z.Pairwise (fun a b=>idE a≠idE b)) (hk:∀ x∈z,Qcu z x=true) (k:Nat) (hlt:k<z.length):Q6c (z.take k) (z.take k) z[k]=0:=by
 have hin:z[k]∈z:=List.getElem_mem hlt;have hsp:z.take (k+1)=z.take k ++ [z[k]]:=List.take_succ_eq_append_getElem hlt;have hr2:Rise (z.take k ++ [z[k]]):=hsp ▸ hr.sublist (List.take_sublist _ _);have hi2:(z.take k ++ [z[k]]).Pairwise (fun a b=>idE a≠idE b):=hsp ▸ hi.sublist (List.take_sublist _ _);unfold Rise at hr2;rw[List.pairwise_append] at hr2 hi2;unfold Q6c;rw[if_neg (by rw[hm _ hin];decide),if_neg,if_neg,if_neg]
 · have h1:=hk _ hin
   unfold Qcu at h1
   cases hg:Qci (z.take k) z[k].person with
   | false=>simp
   | true =>
     obtain⟨y,hy,h3,h4⟩:=Qdu.1 hg;rw[Qdu.2 ⟨y,List.mem_of_mem_take hy,h3,h4⟩] at h1
     simpa using h1
 · rw[List.any_eq_true]
   rintro ⟨y,hy,he⟩
   exact hi2.2.2 y hy z[k] (by simp) (of_decide_eq_true he)
 · cases hq:(z.take k).getLast? with
   | none=>simp[Xch]
   | some y =>
     have:=hr2.2.2 y (List.mem_of_getLast? hq) z[k] (by simp)
     simp[this,Xch]
theorem Qp7.next {c:Cfg} {s:WS} {z:List Ev} (hm:∀ x∈z,Xn x=true) (hr:Rise z) (hi:z.Pairwise (fun a b=>idE a≠idE b)) (hk:∀ x∈z,Qcu z x=true) (k:Nat) (hlt:k<z.length) (h:Qp7 c s (z.take k)) (he:s.es=z.take k):Qol s z[k]=0∧Qp7 c (Qvj c.width s z[k]) (z.take (k+1))∧(Qvj c.width s z[k]).es=z.take (k+1):=by
 have h0:Qol s z[k]=0:=by rw[h.answer,he];exact Q6d hm hr hi hk k hlt
 have hsp:z.take (k+1)=z.take k ++ [z[k]]:=List.take_succ_eq_append_getElem hlt;obtain⟨h1,h2⟩:=h.step h0;rw[he,← hsp] at h2;rw[← hsp] at h1
 exact⟨h0,h1,h2.trans (Qth (Q30 hk _))⟩
end Go.Proofs.YtdahooejkjcjiaaGreatDoor
