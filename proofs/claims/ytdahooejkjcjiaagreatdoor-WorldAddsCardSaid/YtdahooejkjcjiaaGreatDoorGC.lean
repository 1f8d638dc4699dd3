/- Several texts in one: So1, So2, So3, So4, So5, So6, Ew1, Ew2, Ew3, Txt, Onc, Lst, Wo1, Jo1, Rw. -/
import Derived.Test.YtdahooejkjcjiaaGreatDoorGB
import Derived.Test.YtdahooejkjcjiaaGreatDoorHShelf
import Derived.Test.YtdahooejkjcjiaaGreatDoorGA
import Derived.Laws.Cover3
import Derived.Laws.Pointers
import Derived.Lib.IndexBytes
import Derived.Lib.SplitLaws
import Derived.Lib.CountLaws
set_option linter.unusedVariables false
set_option linter.unusedSimpArgs false
namespace Go.Proofs.YtdahooejkjcjiaaGreatDoor
open Go.Se Go.RowKit
theorem Qb9 {P:Program} {f:FuncId} {args:List Value} {w:World} {v:Value} {Q:World→Prop} (ok:Qqr P f) (h:Calls P f args.toArray w fun e w'=>e = .returned v∧Q w') {R:Value→World→Prop} (hR:∀ w',Q w'→R v w'):Cal P f args w R :=
 ⟨ok,h.mono fun e w' ⟨he,hq⟩=>⟨v,he,hR w' hq⟩⟩
theorem Qpy:Qqr Tryz.prog 79:=⟨_,Tryz.func79,rfl,rfl⟩
theorem Qmu (a b:ByteArray) (w:World):Cal Tryz.prog 79 [.string a,.string b] w fun r w'=>r = .int .i64 (Qkp a b)∧w'=w :=
 Qb9 Qpy (Tryz.strings_Compare a b w) fun w' hw=>⟨by rw[Q6y],hw⟩
theorem Qn7 (a:Int) (w:World):Cal Tryz.prog 133 [.int .i64 a] w fun r w'=>r = .bool false∧w'=w:=by
 refine Fi Tryz.func133 rfl _ rfl rfl ?_;conv=>whnf
 exact⟨by simp,rfl⟩
theorem Qll (a b:Int) (w:World):Cal Tryz.prog 78 [.int .i64 a,.int .i64 b] w fun r w'=>r = .int .i64 (Qhv a b)∧w'=w:=by
 refine Fi Tryz.func78 rfl _ rfl rfl ?_;conv=>whnf
 refine(Qn7 a w).mono ?_;rintro _ _ ⟨rfl,rfl⟩
 conv=>whnf
 refine(Qn7 b _).mono ?_;rintro _ _ ⟨rfl,rfl⟩
 conv=>whnf
 constructor
 · intro h;cases h
 intro _
 conv=>whnf
 constructor
 · intro h;cases h
 intro _
 conv=>whnf
 constructor
 · intro h
   have h:a<b:=by simpa using h
   conv=>whnf
   exact⟨by unfold Qhv;rw[if_pos h],rfl⟩
 intro h;have h:¬ a<b:=by simpa using h
 conv=>whnf
 constructor
 · intro k
   have k:b<a:=by simpa using k
   conv=>whnf
   exact⟨by unfold Qhv;rw[if_neg h,if_pos k],rfl⟩
 intro k;have k:¬ b<a:=by simpa using k
 conv=>whnf
 exact⟨by unfold Qhv;rw[if_neg h,if_neg k],rfl⟩
def Qn6 (z:Int):List Value := [.int .i64 z]
theorem Qes (z:Int):(Qn6 z).length=1:=rfl
theorem Q4p (z:Int):∀ u∈Qn6 z,u.oneCell'=true:=by simp[Qn6,Value.oneCell']
abbrev SlI:=Sl Qn6 1
def orL (l:List Int):Int:=(l.find? (fun z=>decide (z≠0))).getD 0
theorem Quv (l:List Int) (A:Option Addr) (c:Nat) (w:World) (hs:SlI w A l) (hl:l.length<1000000000000) :
 Cal Tryz.prog 77 [.slice A l.length c] w fun r w'=>r = .int .i64 (orL l)∧w'=w:=by
 refine Fi Tryz.func77 rfl _ rfl rfl ?_;conv=>whnf
 refine Qe Qa (fun(k:Nat) w'=>k≤l.length∧w'=w∧∀ i (hi:i<l.length),i<k→l[i]=0)
  (fun k => [(6,.slice A l.length c),(7,.int .i64 l.length),(8,.int .i64 k),(3,.int .i64 0)]) (fun k=>l.length-k) 0 ⟨by omega,rfl,fun i _ h=>by omega⟩ ⟨rfl,rfl,rfl,rfl,trivial⟩ ?_
 rintro k w1 ⟨hk,rfl,hall⟩
 conv=>whnf
 constructor
 · intro hlt
   have hlt:k<l.length:=by simpa using hlt
   conv=>whnf
   obtain⟨a,rfl,hc⟩:=hs.get hlt;refine⟨a,⟨rfl,by omega,by omega⟩,?_⟩;conv=>whnf
   refine⟨.int .i64 l[k],Qu hc,?_⟩;conv=>whnf
   constructor
   · intro h
     have h:l[k]≠0:=by simpa using h
     conv=>whnf
     refine⟨?_,rfl⟩;unfold orL
     have:l.find? (fun z=>decide (z≠0))=some l[k]:=by
      rw[List.find?_eq_some_iff_getElem];refine⟨by simpa using h,k,hlt,rfl,fun j hj => ?_⟩;rw[hall j (by omega) hj];simp
     rw[this];rfl
   · intro h
     have h:l[k]=0:=by simpa using h
     conv=>whnf
     refine⟨_,wrap_succ (by omega),?_⟩;conv=>whnf
     refine⟨k+1,by omega,⟨by omega,rfl,fun i hi hik => ?_⟩,⟨rfl,rfl,rfl,rfl,trivial⟩⟩
     by_cases e:i=k
     · subst e;exact h
     · exact hall i hi (by omega)
 · intro hge
   have hge:l.length≤k:=by simpa using hge
   conv=>whnf
   refine⟨?_,rfl⟩
   have:l.find? (fun z=>decide (z≠0))=none:=by
    rw[List.find?_eq_none];intro x hx;obtain⟨i,hi,rfl⟩:=List.getElem_of_mem hx;rw[hall i hi (by omega)];simp
   unfold orL;rw[this];rfl
theorem Qgm (a b:Ev) (w:World):Cal Tryz.prog 41 [evV a,evV b] w fun r w'=>r = .int .i64 (Qky a b)∧Ext w w':=by
 refine Fi Tryz.func41 rfl _ rfl rfl ?_;conv=>whnf
 intro b1 w1 hn1;conv=>whnf
 intro b2 w2 hn2;have h1:=hn1.At.ext hn2.ext;have h2:=hn2.At;have hx:=hn1.ext.trans hn2.ext
 conv=>whnf
 refine Dr .ext [0,1,2,3,5,6,7,8,10,11,12,13,4,9] [14,15,16,17] ?_;conv=>whnf
 replace h1:At w2.drew b1 _ _:=h1;replace h2:At w2.drew b2 _ _:=h2;replace hx:Ext w w2.drew:=hx.drew;generalize w2.drew=w3 at h1 h2 hx ⊢;refine⟨_,h1.one rfl,?_⟩;conv=>whnf
 refine⟨_,h2.one rfl,?_⟩;conv=>whnf
 refine⟨_,h1.one0,?_⟩;conv=>whnf
 refine⟨_,h2.one0,?_⟩;conv=>whnf
 refine⟨_,h1.one rfl,?_⟩;conv=>whnf
 refine⟨_,h2.one rfl,?_⟩;conv=>whnf
 refine(Qll _ _ _).mono ?_;rintro _ _ ⟨rfl,rfl⟩;refine⟨Ext.refl _,?_⟩;conv=>whnf
 refine(Qmu _ _ _).mono ?_;rintro _ _ ⟨rfl,rfl⟩;refine⟨Ext.refl _,?_⟩;conv=>whnf
 refine(Qll _ _ _).mono ?_;rintro _ _ ⟨rfl,rfl⟩;conv=>whnf
 intro b6 w6 hn6;conv=>whnf
 refine(Quv [Qhv a.at_ b.at_,Qkp a.src b.src,Qhv a.num b.num] _ _ _ (Qej (enc:=Qn6) Qes hn6) (by simp)).mono ?_;rintro _ _ ⟨rfl,rfl⟩;conv=>whnf
 refine⟨?_,hx.trans hn6.ext⟩;unfold Qky orL
 congr 1
 by_cases p:Qhv a.at_ b.at_=0
 · by_cases q:Qkp a.src b.src=0
   · by_cases r:Qhv a.num b.num=0 <;> simp[p,q,r]
   · simp[p,q]
 · simp[p]
def Blk (A:Option Addr) (k:Nat):Prop:=∃ a,A=some a∧k=a.block
theorem Only.blk {w w':World} {a:Addr} (h:Only w w' a.block):Mod (Blk (some a)) w w':=h.mod.mono fun k _ e=>⟨a,rfl,e⟩
theorem Qcw {w w1 w2:World} {S:Nat→Prop} (hx:Ext w w1) (hm:Mod S w1 w2) (h:∀ k,S k→w.heap.size≤k):Ext w w2 :=
 ⟨hm.os.trans hx.os,hm.tape.trans hx.tape,hm.output.trans hx.output,Nat.le_trans hx.size hm.size,fun i hi=>(hm.block i (Nat.lt_of_lt_of_le hi hx.size) (fun hs=>by have:=h i hs;omega)).trans (hx.block i hi)⟩
section
variable {α:Type}
theorem Qsy {x:List α} {k:Nat} (h:k<x.length):x=x.take k++x[k] :: x.drop (k+1):=by
 rw[← List.drop_eq_getElem_cons h,List.take_append_drop]
end
theorem wrap_eq {z x:Int} (h:z=x) (hb:-9223372036854775808≤x∧x≤9223372036854775807):z=IntKind.i64.wrap x:=by rw[h];exact wrap_i64 hb
theorem Mod.drew {S:Nat→Prop} (w:World):Mod S w w.drew:=⟨rfl,rfl,rfl,Nat.le_refl _,fun _ _ _=>rfl⟩
theorem Q69 (n:Nat):(0:Int)≤1∧((n/2:Nat):Int)=Int.fdiv (n:Int) (2 ^ (min (1:Int).toNat IntKind.u64.bits)):=by
 refine⟨by decide,?_⟩;have:(2:Int) ^ (min (1:Int).toNat IntKind.u64.bits)=2:=by decide
 rw[this,Int.fdiv_eq_ediv_of_nonneg _ (by decide)];omega
theorem Q9i {n:Nat} (h:n≤9223372036854775807):(n:Int)=IntKind.u64.wrap (n:Int):=wrap_u64 ⟨by omega,by omega⟩
theorem Q9h {n:Nat} (h:n≤9223372036854775807):(n:Int)=IntKind.i64.wrap (n:Int):=wrap_i64 ⟨by omega,by omega⟩
section
variable {α:Type} {lt:α→α→Bool}
theorem Q1k {l:List α} {i:Nat} {u:α} (h0:0<i) (h:l[i-1]? = some u):(l.take i).getLast? = some u:=by
 have hlt:i-1<l.length:=(List.getElem?_eq_some_iff.1 h).1;obtain⟨i,rfl⟩:∃ j,i=j+1:=⟨i-1,by omega⟩;have:l[i]=u:=by simp at h hlt;rw[List.getElem?_eq_getElem hlt] at h;simpa using h
 rw[List.take_succ_eq_append_getElem (by omega)]
 simp[this]
theorem head_drop {l:List α} {i:Nat} {u:α} (h:l[i]? = some u):(l.drop i).head? = some u:=by
 rw[List.head?_drop];exact h
theorem Q5l (O:Swo lt) {y:List α} {v:α} {i:Nat} (hi:i≤y.length) (hs:Srt lt y) (h1:i=0∨∃ u,y[i-1]? = some u∧lt v u=false) (h2:i=y.length∨∃ u,y[i]? = some u∧lt u v=false):Srt lt (y.take i++v :: y.drop i):=by
 have hs':Srt lt (y.take i++y.drop i):=by rw[List.take_append_drop];exact hs
 have k1:=Q1n (x:=y.take i) (y := [v]) O hs'.left (Srt.one v) (fun a b ha hb=>by
  obtain rfl:v=b:=by simpa using hb
  rcases h1 with rfl | ⟨u,hu,hl⟩
  · simp at ha
  · by_cases hi0:i=0
    · subst hi0;simp at ha
    · rw[Q1k (by omega) hu] at ha
      obtain rfl:u=a:=by simpa using ha
      exact hl)
 have k2:=Q1n (x := [v]) (y:=y.drop i) O (Srt.one v) hs'.right (fun a b ha hb=>by
  obtain rfl:v=a:=by simpa using ha
  rcases h2 with rfl | ⟨u,hu,hl⟩
  · simp at hb
  · rw[head_drop hu] at hb
    obtain rfl:u=b:=by simpa using hb
    exact hl)
 refine hs'.left.append (List.pairwise_cons.2 ⟨fun t ht=>k2 v (by simp) t ht,hs'.right⟩) fun t ht u hu => ?_
 rcases List.mem_cons.1 hu with rfl | hu
 · exact k1 t ht u (by simp)
 · exact hs'.across t ht u hu
end
section
variable {α:Type} {lt:α→α→Bool}
end
section
variable {P:Program}
theorem Qed {t e:TypeId} (h:P.underlying t=some (.slice e)) (A:Option Addr) (n c:Nat) (ox oy:Operand):Qo0 P t ox oy (.slice A n c) (.slice none 0 0) A.isNone:=by
 intro w;have h1:=run_equal_slice_nil (P:=P) w t e A n c h;constructor
 · simp[eqGuard,binOp,h1]
 · simp[eqGuard,binOp,h1]
theorem Qa1 {t k e:TypeId} (h:P.underlying t=some (.map k e)) (m:Option Nat) (ox oy:Operand):Qo0 P t ox oy (.map m) (.map none) m.isNone:=by
 intro w;have h1:=run_equal_map_nil (P:=P) w t k e m h;constructor
 · simp[eqGuard,binOp,h1]
 · simp[eqGuard,binOp,h1]
end
theorem Qxs:Tryz.prog.underlying 24=some (.slice 34):=by kernel_rfl
theorem Qnu {w:World} {A:Option Addr} {c base:Nat} {l:List Ev} {R:Value→World→Prop} {ty:TypeId} (hown:Own evC 8 34 base w A c l) {B:Option Addr} {cB:Nat} {news:List Ev} (hs:SlE w B news) (hl:l.length+news.length<1000000000000) (hbase:base≤w.heap.size)
 (h:∀ A' c' w',Own evC 8 34 base w' A' c' (l++news)→w.grownBy w' (A.map (·.block))→(A'=A∨A'.map (·.block)=A.map (·.block)∨A'.map (·.block)=some w.heap.size)→R (.slice A' (l++news).length c') w') :
 Qkl Tryz.prog (Builtin.append_ #[24,24] ty [.slice A l.length c,.slice B news.length cB].toArray) w R :=
 Qc8 (bytes:=96) ty34_ok Qxs by34 rfl rfl (by decide) Qaq Qe0 hown hs (by omega) (by omega) hbase h
theorem Qx0 (x:List Ev) (A:Option Addr) (c:Nat) (w:World) (hs:SlE w A x) (hl:x.length<1000000000000) :
 Cal Tryz.prog 44 [.slice A x.length c] w fun r w'=>∃ A' c',r = .slice A' x.length c'∧Own evC 8 34 w.heap.size w' A' c' x∧Ext w w':=by
 refine Fi Tryz.func44 rfl _ rfl rfl ?_;conv=>whnf
 refine⟨_,Qed Qxs A _ _ _ _,?_⟩;conv=>whnf
 constructor
 · intro h
   obtain rfl:A=none:=by simpa using h
   have hx:x = []:=by
    cases x with
    | nil=>rfl
    | cons e x=>obtain⟨a,ha,_⟩:=hs 0 e rfl;cases ha
   subst hx
   conv=>whnf
   exact⟨none,0,rfl,Own.nil,Ext.refl _⟩
 · intro h
   conv=>whnf
   intro b1 w1 hn1;conv=>whnf
   refine Qnu (l := []) (base:=w.heap.size) (Own.made hn1 (Nat.le_refl _)) (hs.ext hn1.ext) (by simpa using hl) hn1.ext.size ?_;intro A' c' w' hown hg hA
   conv=>whnf
   refine⟨A',c',by simp,by simpa using hown,Qi hn1.ext hg fun k hk => ?_⟩;have:k=b1:=by simpa using hk.symm
   rw[this,hn1.block];exact Nat.le_refl _
structure Gl (w:World):Prop where
 maxLen:∃ m,w.cell? ⟨1,0,none⟩=some (.int .i64 m)
 pow10 : Lib.TabIs Tryz.prog w "internal/strconv.uint64pow10" .u64 Lib.pow10Tab
 kinds:Xt w ⟨0,0,none⟩ (kindNames.map Value.string)
 size:10≤w.heap.size
theorem Q93 : Tryz.prog.globalNamed "internal/strconv.uint64pow10" = some 2 := by kernel_rfl
theorem Gl.keep {w w':World} (h:Gl w) (hk:∀ k,k<10→w'.heap[k]? = w.heap[k]?) (hs:w.heap.size≤w'.heap.size):Gl w' where
 maxLen:=by obtain⟨m,hm⟩:=h.maxLen;exact⟨m,by rw[World.cell?_of_block (w:=w) (hk _ (by decide))];exact hm⟩
 pow10:=by
  have:=h.pow10;unfold Lib.TabIs World.var? at this ⊢;rw[Q93] at this ⊢;simp only[Option.bind_some] at this ⊢;rw[hk _ (by decide)];exact this
 kinds:=fun j v hj=>by
  rw[World.cell?_of_block (w:=w) (hk _ (by rw[add_block];decide))];exact h.kinds j v hj
 size:=Nat.le_trans h.size hs
theorem Gl.ext {w w':World} (h:Gl w) (hx:Ext w w'):Gl w':=h.keep (fun k hk=>hx.block k (Nat.lt_of_lt_of_le hk h.size)) hx.size
theorem Gl.mod {w w':World} {S:Nat→Prop} (h:Gl w) (hx:Mod S w w') (hs:∀ k,S k→10≤k):Gl w' :=
 h.keep (fun k hk=>hx.block k (Nat.lt_of_lt_of_le hk h.size) (fun q=>by have:=hs k q;omega)) hx.size
theorem Gl.only {w w':World} {b:Nat} (h:Gl w) (hx:Only w w' b) (hb:10≤b):Gl w':=h.keep (fun k hk=>hx.block k (by omega)) (by rw[hx.size];exact Nat.le_refl _)
theorem Qlr (w:World) (n:Nat):Ext w (w.drewN n):=⟨rfl,rfl,rfl,Nat.le_refl _,fun _ _=>rfl⟩
theorem Qhc (w:World) (os:Array Obj):Ext w (Go.Sort.grow w os):=by
 refine⟨rfl,rfl,rfl,by simp[Go.Sort.grow],fun k hk => ?_⟩;simp only[Go.Sort.grow];rw[Array.getElem?_append_left hk]
theorem Quc (c:UInt8):∀ l:List UInt8,Lib.indexByte l c=match l.findIdx? (· == c) with | some i=>(i:Int) | none => -1
 | []=>rfl
 | b :: l=>by
   unfold Lib.indexByte;rw[Quc c l,List.findIdx?_cons]
   cases hb:(b == c) with
   | true=>simp
   | false =>
     simp only[Bool.false_eq_true,if_false]
     cases l.findIdx? (· == c) with
     | none=>simp
     | some i=>simp
theorem Q7a (s:ByteArray):Lib.index s.data.toList [59]=Qev s:=by
 rw[Lib.index_one,Quc];rfl
def Qaj (s:ByteArray):ByteArray:=match Qaf s with | some i=>s.extract (i+1) s.size | none=>⟨#[]⟩
theorem Q83:Qqr Tryz.prog 131:=⟨_,Tryz.func131,rfl,rfl⟩
theorem Qk0 (s:ByteArray) (w:World) (hg:Gl w) (hs:s.size<4000000000) :
 Cal Tryz.prog 131 [.string s,.string ⟨#[59]⟩] w fun r w'=>r = .tuple #[.string (Qas s),.string (Qaj s),.bool (Qaf s).isSome]∧Ext w w':=by
 obtain⟨m,hm⟩:=hg.maxLen;refine Qb9 Q83 (Tryz.strings_Cut s ⟨#[59]⟩ m w (by omega) hm) ?_;rintro w' ⟨n,rfl⟩;refine⟨?_,Qlr w n⟩
 have h1:Lib.cut s.data.toList [59]=((Qas s).data.toList,(Qaj s).data.toList,(Qaf s).isSome):=by
  unfold Lib.cut;rw[Q7a];unfold Qev Qas Qaj
  cases hp:Qaf s with
  | none=>simp
  | some i =>
    have:=Qgs hp;simp only[Int.natCast_nonneg,if_true,Int.toNat_natCast,Option.isSome_some,Qer];have hl:s.data.toList.length=s.size:=by simp
    simp only[List.drop_zero,Nat.sub_zero,List.length_cons,List.length_nil,Nat.zero_add];rw[List.take_of_length_le (l:=s.data.toList.drop (i+1)) (by simp)]
 show Value.tuple #[.string ⟨(Lib.cut s.data.toList [59]).1.toArray⟩,.string ⟨(Lib.cut s.data.toList [59]).2.1.toArray⟩,.bool (Lib.cut s.data.toList [59]).2.2]=_
 rw[h1]
theorem Qrt {c:UInt8}:∀ {a b:List UInt8},(∀ x∈a,x≠c)→partsOf c (a++c :: b)=a :: partsOf c b
 | [],b,_=>by simp[partsOf]
 | x :: a,b,h=>by
   simp only[List.cons_append,partsOf];rw[if_neg (h x (by simp)),Qrt (a:=a) (fun y hy=>h y (by simp[hy]))]
theorem Qmr:∀ (n:Nat) (s:ByteArray),s.size≤n→Lib.splitB ⟨#[44]⟩ 0 (Lib.countB s ⟨#[44]⟩) s=Qbp 44 s:=by
 intro n
 induction n with
 | zero =>
   intro s hs;have:s.data.toList = []:=List.length_eq_zero_iff.1 (by simpa using hs)
   have hi:Lib.indexB s ⟨#[44]⟩ = -1:=by
    show Lib.index s.data.toList [44] = -1
    rw[this];rfl
   rw[Lib.splitB_miss _ _ _ _ hi];unfold Qbp;rw[this]
   simp[partsOf,bytesOf]
   apply ByteArray.ext
   apply Array.ext'
   simpa using this
 | succ n ih =>
   intro s hs
   have hix:Lib.indexB s ⟨#[44]⟩=match s.data.toList.findIdx? (· == 44) with | some i=>(i:Int) | none => -1:=by
    show Lib.index s.data.toList [44]=_
    rw[Lib.index_one,Quc]
   cases hf:s.data.toList.findIdx? (· == 44) with
   | none =>
     rw[hf] at hix;rw[Lib.splitB_miss _ _ _ _ hix];unfold Qbp;rw[Qjr (fun x hx=>by rw[List.findIdx?_eq_none_iff] at hf;have:=hf x hx;simpa using this)]
     rfl
   | some i =>
     rw[hf] at hix;simp only at hix;rw[List.findIdx?_eq_some_iff_getElem] at hf;obtain⟨hi,hc,hall⟩:=hf;have hi':i<s.size:=by simpa using hi
     have hsz1:(⟨#[44]⟩:ByteArray).size=1:=rfl;rw[Lib.countB_hit s _ i (by decide) hix,Nat.add_comm,Lib.splitB_hit _ _ _ _ _ hix,hsz1,ih _ (by rw[ByteArray.size_extract];omega)]
     have hdec:s.data.toList=s.data.toList.take i++44 :: s.data.toList.drop (i+1):=by
      have h44:s.data.toList[i]=44:=by simpa using hc
      rw[← h44]
      exact Qsy hi
     unfold Qbp
     conv=>rhs;rw[hdec]
     rw[Qrt (fun x hx=>by
      obtain⟨j,hj,rfl⟩:=List.getElem_of_mem hx
      simp at hj
      have:=hall j (by omega)
      simpa using this)]
     rw[List.map_cons]
     congr 1
     · rw[Qdv];simp
     · rw[Qer]
       rw[List.take_of_length_le (by simp)]
theorem Qk1 (l:List ByteArray):l.flatMap Qa8=l.map Value.string:=by
 induction l with
 | nil=>rfl
 | cons x l ih=>rw[List.flatMap_cons,ih];rfl
theorem Qxb:Qqr Tryz.prog 198:=⟨_,Tryz.func198,rfl,rfl⟩
theorem Qzq (s:ByteArray) (w:World) (hg:Gl w) (hs:s.size<4000000000) :
 Cal Tryz.prog 198 [.string s,.string ⟨#[44]⟩] w fun r w'=>∃ A c,r = .slice A (Qbp 44 s).length c∧SlT w' A (Qbp 44 s)∧Ext w w':=by
 obtain⟨m,hm⟩:=hg.maxLen;refine Qb9 Qxb (Tryz.strings_Split s ⟨#[44]⟩ m w (by omega) hm (by decide)) ?_;rintro w' rfl;have hlen:=Lib.splitB_all ⟨#[44]⟩ (by decide) 0 _ s rfl;have hsp:=Qmr s.size s (Nat.le_refl _);rw[hsp] at hlen;have hn:New w (w.alloc (.cells ((Qbp 44 s).flatMap Qa8).toArray 9)) w.heap.size (.cells ((Qbp 44 s).flatMap Qa8).toArray 9):=⟨rfl,rfl⟩;refine⟨some ⟨w.heap.size,0,none⟩,Lib.countB s ⟨#[44]⟩+1,by rw[hlen],?_,?_⟩
 · rw[hsp,← Qk1];exact Qej X7 hn
 · rw[hsp,← Qk1];exact hn.ext
theorem Qei (s:ByteArray):Xd s=if Qaj s=⟨#[]⟩ then [] else Qbp 44 (Qaj s):=by
 unfold Xd Qaj
 cases hp:Qaf s with
 | none=>simp
 | some i =>
   have:=Qgs hp;simp only
   by_cases h:i+1=s.size
   · have:s.extract (i+1) s.size=⟨#[]⟩:=by
      rw[Qdv,h];simp[bytesOf]
     rw[if_pos h,if_pos this]
   · have:s.extract (i+1) s.size≠⟨#[]⟩:=fun e=>by
      have:=congrArg ByteArray.size e;rw[ByteArray.size_extract] at this;have h0:(⟨#[]⟩:ByteArray).size=0:=rfl;omega
     rw[if_neg h,if_neg this]
theorem Qx8 (s:ByteArray) (w:World) (hg:Gl w) (hs:s.size<4000000000) :
 Cal Tryz.prog 132 [.string s] w fun r w'=>∃ A c,r = .slice A (Xd s).length c∧SlT w' A (Xd s)∧Ext w w':=by
 have hrs:(Qaj s).size≤s.size:=by
  unfold Qaj
  split
  · rw[ByteArray.size_extract];omega
  · exact Nat.zero_le _
 refine Fi Tryz.func132 rfl _ rfl rfl ?_;conv=>whnf
 refine(Qk0 s w hg hs).mono ?_;rintro _ w1 ⟨rfl,hx1⟩;conv=>whnf
 constructor
 · intro h
   have h:Qaj s=⟨#[]⟩:=by simpa using h
   conv=>whnf
   have ht:Xd s = []:=by rw[Qei,if_pos h]
   exact⟨none,0,by rw[ht];rfl,by rw[ht];exact Sl.nil,hx1⟩
 · intro h
   have h:¬ Qaj s=⟨#[]⟩:=by simpa using h
   conv=>whnf
   refine(Qzq (Qaj s) w1 (hg.ext hx1) (by omega)).mono ?_;rintro _ w2 ⟨A,c,rfl,hsl,hx2⟩;conv=>whnf
   have ht:Xd s=Qbp 44 (Qaj s):=by rw[Qei,if_neg h]
   exact⟨A,c,by rw[ht],by rw[ht];exact hsl,hx1.trans hx2⟩
theorem Qda (s:ByteArray) (w:World):Cal Tryz.prog 75 [.string s] w fun r w'=>r = .bool (Qm s)∧w'=w:=by
 refine Fi Tryz.func75 rfl _ rfl rfl ?_;conv=>whnf
 constructor
 · intro h
   have h:(decide ((s.size:Int)<1)||decide ((24:Int)<s.size))=true:=h
   conv=>whnf
   refine⟨?_,rfl⟩
   have:Qm s=false:=by
    unfold Qm;simp only[Bool.or_eq_true,decide_eq_true_eq] at h;rcases h with h | h
    · have:decide (1≤s.size)=false:=decide_eq_false (by omega)
      rw[this];rfl
    · have:decide (s.size≤24)=false:=decide_eq_false (by omega)
      rw[this];simp
   rw[this]
 · intro h
   have h:(decide ((s.size:Int)<1)||decide ((24:Int)<s.size))=false:=h;simp only[Bool.or_eq_false_iff,decide_eq_false_iff_not] at h
   conv=>whnf
   have hlen:s.data.toList.length=s.size:=by simp
   refine Qe Qa (fun(k:Nat) w'=>k≤s.size∧w'=w∧∀ i (hi:i<s.data.toList.length),i<k→Qht s.data.toList[i]=true)
    (fun k => [(0,.string s),(14,.int .i64 s.size),(15,.int .i64 k)]) (fun k=>s.size-k) 0 ⟨by omega,rfl,fun i _ h=>by omega⟩ ⟨rfl,rfl,rfl,trivial⟩ ?_
   rintro k w1 ⟨hk,rfl,hall⟩
   conv=>whnf
   constructor
   · intro hlt
     have hlt:k<s.size:=by simpa using hlt
     conv=>whnf
     refine⟨s.data.toList[k]'(by omega),⟨by omega,bytes_at s k hlt⟩,?_⟩;conv=>whnf
     have hch:∀ c:UInt8,(((decide ((97:Int)≤c.toNat)&&decide ((c.toNat:Int)≤122))||(decide ((48:Int)≤c.toNat)&&decide ((c.toNat:Int)≤57)))||decide ((c.toNat:Int)=45))=Qht c:=fun c=>rfl
     constructor
     · intro hb
       have hb:Qht (s.data.toList[k]'(by omega))=false:=by
        rw[← hch];simpa only[Bool.not_eq_true'] using hb
       conv=>whnf
       refine⟨?_,rfl⟩
       have:Qm s=false:=by
        unfold Qm;have:s.data.toList.all Qht=false:=Q0i (by omega) hb;rw[this];simp
       rw[this]
     · intro hb
       have hb:Qht (s.data.toList[k]'(by omega))=true:=by
        rw[← hch];simpa only[Bool.not_eq_false'] using hb
       conv=>whnf
       refine⟨_,wrap_succ (by omega),?_⟩;conv=>whnf
       refine⟨k+1,by omega,⟨by omega,rfl,fun i hi hik => ?_⟩,⟨rfl,rfl,rfl,trivial⟩⟩
       by_cases e:i=k
       · subst e;exact hb
       · exact hall i hi (by omega)
   · intro hge
     have hge:s.size≤k:=by simpa using hge
     conv=>whnf
     refine⟨?_,rfl⟩
     have:Qm s=true:=by
      unfold Qm;have h3:s.data.toList.all Qht=true:=Qwl hall (by omega);rw[h3]
      simp
      omega
     rw[this]
theorem Qrl (s:ByteArray) (w:World) (hg:Gl w) (hs:s.size<4000000000) :
 Cal Tryz.prog 76 [.string s] w fun r w'=>r = .bool (Qb1 s)∧Ext w w':=by
 refine Fi Tryz.func76 rfl _ rfl rfl ?_;conv=>whnf
 refine(Qk0 s w hg hs).mono ?_;rintro _ w1 ⟨rfl,hx1⟩;conv=>whnf
 refine⟨Unit,fun _ => .bool (Qm (Qas s)),fun _ w'=>w'=w1,(),fun _=>(Qda (Qas s) w1).mono fun r w' h=>⟨(),h.1,h.2⟩,?_⟩;intro _ w2 h2
 obtain rfl:w2=w1:=by
  rcases h2 with⟨_,h⟩ | ⟨_,h⟩ <;> exact h
 clear h2
 conv=>whnf
 constructor
 · intro h
   have h:((!(Qaf s).isSome) || !Qm (Qas s))=true:=h
   conv=>whnf
   refine⟨?_,hx1⟩
   have:Qb1 s=false:=by
    unfold Qb1
    revert h
    cases (Qaf s).isSome <;> cases Qm (Qas s) <;> simp
   rw[this]
 · intro h
   have h:((!(Qaf s).isSome) || !Qm (Qas s))=false:=h
   have hl:Qb1 s=(Qgb (Xd s)&&decide ((Xd s).length≤8)):=by
    unfold Qb1
    revert h
    cases (Qaf s).isSome <;> cases Qm (Qas s) <;> simp
   conv=>whnf
   refine(Qx8 s w2 (hg.ext hx1) hs).mono ?_;rintro _ w3 ⟨A',c',rfl,hsl,hx3⟩;conv=>whnf
   have htl:=Qqj s;constructor
   · intro h8
     have h8:8<(Xd s).length:=by simp at h8;omega
     conv=>whnf
     refine⟨?_,hx1.trans hx3⟩;have:decide ((Xd s).length≤8)=false:=decide_eq_false (by omega);rw[hl,this,Bool.and_false]
   · intro h8
     have h8:(Xd s).length≤8:=by simp at h8;omega
     have hl8:Qb1 s=Qgb (Xd s):=by
      rw[hl,decide_eq_true h8,Bool.and_true]
     conv=>whnf
     refine Qe Qa (fun(k:Nat) w'=>k≤(Xd s).length∧Ext w3 w'∧∀ i,i<k→Qmw (Xd s) i=true)
      (fun k => [(6,.slice A' (Xd s).length c'),(27,.slice A' (Xd s).length c'),(28,.int .i64 (Xd s).length),(29,.int .i64 k)]) (fun k=>(Xd s).length-k) 0 ⟨by omega,Ext.refl _,fun i h=>by omega⟩ ⟨rfl,rfl,rfl,rfl,trivial⟩ ?_
     rintro k w5 ⟨hk,hx5,hall⟩
     conv=>whnf
     constructor
     · intro hlt
       have hlt:k<(Xd s).length:=by simpa using hlt
       obtain⟨a,rfl,hc⟩:=(hsl.ext hx5).getS hlt
       conv=>whnf
       refine⟨a,⟨rfl,by omega,by omega⟩,?_⟩;conv=>whnf
       refine⟨_,hc,?_⟩;conv=>whnf
       refine(Qda ((Xd s).getD k .empty) w5).mono ?_;rintro _ w6 ⟨rfl,rfl⟩
       conv=>whnf
       refine⟨(k:Int)-1,fun _ _=>wrap_i64 ⟨by omega,by omega⟩,?_⟩;conv=>whnf
       refine⟨a,fun h1 h2=>⟨rfl,?_,?_⟩,?_⟩
       · first | (simp at h1;omega) | (simp at h2;omega)
       · omega
       conv=>whnf
       refine⟨.string ((Xd s).getD (k-1) .empty),fun h1 h2 => ?_,?_⟩
       · obtain⟨a2,e2,hc2⟩:=(hsl.ext hx5).getS (k:=k-1) (by omega)
         obtain rfl:a=a2:=by simpa using e2
         have e3:((k:Int)-1).toNat=k-1:=by omega
         exact(congrArg (fun n=>w6.cell? (a.add (n*1))) e3).trans hc2
       conv=>whnf
       have hcond:((!Qm ((Xd s).getD k .empty))||(decide ((0:Int)<k) && !bLt ((Xd s).getD (k-1) .empty) ((Xd s).getD k .empty))) = !Qmw (Xd s) k:=by
        unfold Qmw
        cases Qm ((Xd s).getD k .empty) <;> cases k <;> simp
       constructor
       · intro hh
         have hh:=hcond.symm.trans hh;simp only[Bool.not_eq_true'] at hh
         conv=>whnf
         refine⟨?_,hx1.trans (hx3.trans hx5)⟩;rw[hl8,Qop hlt hh]
       · intro hh
         have hh:=hcond.symm.trans hh;simp only[Bool.not_eq_false'] at hh
         conv=>whnf
         refine⟨_,wrap_succ (by omega),?_⟩;conv=>whnf
         refine⟨k+1,by omega,⟨by omega,hx5,fun i hik => ?_⟩,⟨rfl,rfl,rfl,rfl,trivial⟩⟩
         by_cases e:i=k
         · subst e;exact hh
         · exact hall i (by omega)
     · intro hge
       have hge:(Xd s).length≤k:=by simpa using hge
       conv=>whnf
       refine⟨?_,hx1.trans (hx3.trans hx5)⟩;rw[hl8,Qoo hall hge]
theorem Qw7 (a b:Int):decide (a<b) = !decide (b≤a):=by
 rw[← decide_not];exact decide_eq_decide.2 ⟨fun h=>by omega,fun h=>by omega⟩
theorem Qk5 (e:Ev) (w:World) (hg:Gl w) (hs:e.text.size<4000000000) :
 Cal Tryz.prog 40 [evV e] w fun r w'=>r = .bool (Xw e)∧Ext w w':=by
 refine Fi Tryz.func40 rfl _ rfl rfl ?_;conv=>whnf
 intro b w1 hn;have hb:=hn.At
 conv=>whnf
 refine⟨_,hb.one rfl,?_⟩;conv=>whnf
 refine(Qda e.src w1).mono ?_;rintro _ w2 ⟨rfl,rfl⟩
 conv=>whnf
 refine⟨_,fun _=>hb.one rfl,?_⟩;conv=>whnf
 refine⟨_,fun _=>hb.one rfl,?_⟩;conv=>whnf
 refine⟨_,fun _=>hb.one rfl,?_⟩;conv=>whnf
 refine⟨_,fun _=>hb.one rfl,?_⟩;conv=>whnf
 have hb5:(((((!Qm e.src)||decide (e.num<1))||decide (1099511627776<e.num))||decide (e.at_<0))||decide (1099511627776<e.at_)) = !(Qm e.src&&inB e.num 1 1099511627776&&inB e.at_ 0 1099511627776):=by
  have q1:decide (e.num<1) = !decide (1≤e.num):=Qw7 _ _;have q2:decide (1099511627776<e.num) = !decide (e.num≤1099511627776):=Qw7 _ _;have q3:decide (e.at_<0) = !decide (0≤e.at_):=Qw7 _ _;have q4:decide (1099511627776<e.at_) = !decide (e.at_≤1099511627776):=Qw7 _ _;unfold inB;rw[q1,q2,q3,q4]
  cases Qm e.src <;> cases decide (1≤e.num) <;> cases decide (e.num≤1099511627776) <;> cases decide (0≤e.at_) <;> cases decide (e.at_≤1099511627776) <;> rfl
 constructor
 · intro h
   have h:=hb5.symm.trans h;rw[Bool.not_eq_true'] at h
   conv=>whnf
   refine⟨?_,hn.ext⟩;have:Xw e=false:=by unfold Xw;rw[h,Bool.false_and]
   rw[this]
 intro h;have h:=hb5.symm.trans h;rw[Bool.not_eq_false'] at h;have hm:Xw e=Qeh e:=by unfold Xw;rw[h,Bool.true_and]
 clear hb5 h;rw[hm]
 conv=>whnf
 refine Dr .ext [0,1,3,4,6,7,8,2,5,9,10,11] [] ?_;conv=>whnf
 have hx5:Ext w w2.drew:=hn.ext.drew;have hb5:At w2.drew b 34 (evC e):=hb;have hg5:=hg.ext hx5;generalize w2.drew=w3 at hx5 hb5 hg5 ⊢;refine⟨_,hb5.one rfl,?_⟩;conv=>whnf
 refine⟨_,hb5.one rfl,?_⟩;conv=>whnf
 refine⟨_,hb5.one rfl,?_⟩;conv=>whnf
 refine(Qda e.person w3).mono ?_;rintro _ w4 ⟨rfl,rfl⟩;refine⟨Ext.refl _,?_⟩;conv=>whnf
 refine(Qda e.item w4).mono ?_;rintro _ w5 ⟨rfl,rfl⟩;refine⟨Ext.refl _,?_⟩;conv=>whnf
 refine Qb Qa ?_;conv=>whnf
 refine⟨_,hb5.one rfl,?_⟩;conv=>whnf
 refine Xk Qa (ι:=Bool) (fun i => [(1,.pointer (some ⟨b,0,none⟩)),(3,.bool (Qm e.person)),(4,.bool (Qm e.item)),(5,.bool (decide (e.text=⟨#[]⟩))),(40,.int .i64 e.kind),(41,.bool i)]) (fun i w'=>i=k6 e∧w'=w5) ?_ ?_
 · (conv=>whnf)
   refine⟨fun h0' => ?_,fun h0' => ?_⟩
   · (conv=>whnf)
     exact⟨_,⟨by unfold k6;simp at h0';simp[h0'],rfl⟩,⟨rfl,rfl,rfl,rfl,rfl,rfl,trivial⟩⟩
   conv=>whnf
   refine⟨fun h1' => ?_,fun h1' => ?_⟩
   · (conv=>whnf)
     exact⟨_,⟨by unfold k6;simp at h1';simp[h1'],rfl⟩,⟨rfl,rfl,rfl,rfl,rfl,rfl,trivial⟩⟩
   conv=>whnf
   refine⟨fun h2' => ?_,fun h2' => ?_⟩
   · (conv=>whnf)
     exact⟨_,⟨by unfold k6;simp at h2';simp[h2'],rfl⟩,⟨rfl,rfl,rfl,rfl,rfl,rfl,trivial⟩⟩
   conv=>whnf
   refine⟨fun h3' => ?_,fun h3' => ?_⟩
   · (conv=>whnf)
     exact⟨_,⟨by unfold k6;simp at h3';simp[h3'],rfl⟩,⟨rfl,rfl,rfl,rfl,rfl,rfl,trivial⟩⟩
   conv=>whnf
   refine⟨fun h4' => ?_,fun h4' => ?_⟩
   · (conv=>whnf)
     exact⟨_,⟨by unfold k6;simp at h4';simp[h4'],rfl⟩,⟨rfl,rfl,rfl,rfl,rfl,rfl,trivial⟩⟩
   conv=>whnf
   exact⟨_,⟨by unfold k6;simp at h0' h1' h2' h3' h4';simp[h0',h1',h2',h3',h4'],rfl⟩,⟨rfl,rfl,rfl,rfl,rfl,rfl,trivial⟩⟩
 rintro _ w9 ⟨rfl,hw9⟩;replace hw9:=hw9.symm;subst hw9
 conv=>whnf
 refine⟨fun k1 => ?_,fun k1 => ?_⟩
 · (conv=>whnf)
   refine⟨_,fun _=>hb5.one rfl,?_⟩;conv=>whnf
   refine⟨?_,hx5⟩;unfold Qeh;rw[k1,cond_true]
   cases Qm e.person <;> cases Qm e.item <;> cases decide (e.text=⟨#[]⟩) <;> cases decide (e.val=0) <;> rfl
 conv=>whnf
 refine⟨fun k2 => ?_,fun k2 => ?_⟩
 · (conv=>whnf)
   refine⟨_,fun _=>hb5.one rfl,?_⟩;conv=>whnf
   refine⟨_,fun _=>hb5.one rfl,?_⟩;conv=>whnf
   refine⟨?_,hx5⟩;unfold Qeh inB;rw[k1,cond_false,k2,cond_true]
   cases Qm e.person <;> cases Qm e.item <;> cases decide (e.text=⟨#[]⟩) <;> cases decide (1≤e.val) <;> cases decide (e.val≤5) <;> rfl
 conv=>whnf
 refine Xk Qa (ι:=Bool) (fun i => [(1,.pointer (some ⟨b,0,none⟩)),(3,.bool (Qm e.person)),(4,.bool (Qm e.item)),(5,.bool (decide (e.text=⟨#[]⟩))),(40,.int .i64 e.kind),(79,.bool i)]) (fun i w'=>i=k4 e∧w'=w5) ?_ ?_
 · (conv=>whnf)
   refine⟨fun h0' => ?_,fun h0' => ?_⟩
   · (conv=>whnf)
     exact⟨_,⟨by unfold k4;simp at h0';simp[h0'],rfl⟩,⟨rfl,rfl,rfl,rfl,rfl,rfl,trivial⟩⟩
   conv=>whnf
   refine⟨fun h1' => ?_,fun h1' => ?_⟩
   · (conv=>whnf)
     exact⟨_,⟨by unfold k4;simp at h1';simp[h1'],rfl⟩,⟨rfl,rfl,rfl,rfl,rfl,rfl,trivial⟩⟩
   conv=>whnf
   refine⟨fun h2' => ?_,fun h2' => ?_⟩
   · (conv=>whnf)
     exact⟨_,⟨by unfold k4;simp at h2';simp[h2'],rfl⟩,⟨rfl,rfl,rfl,rfl,rfl,rfl,trivial⟩⟩
   conv=>whnf
   exact⟨_,⟨by unfold k4;simp at h0' h1' h2';simp[h0',h1',h2'],rfl⟩,⟨rfl,rfl,rfl,rfl,rfl,rfl,trivial⟩⟩
 rintro _ w9 ⟨rfl,hw9⟩;replace hw9:=hw9.symm;subst hw9
 conv=>whnf
 refine⟨fun k3 => ?_,fun k3 => ?_⟩
 · (conv=>whnf)
   refine⟨_,fun _=>hb5.one rfl,?_⟩;conv=>whnf
   refine⟨_,fun _=>hb5.one rfl,?_⟩;conv=>whnf
   refine⟨_,fun _=>hb5.one rfl,?_⟩;conv=>whnf
   refine⟨Unit,fun _ => .bool (Qm e.text),fun _ w'=>w'=w5,(),fun _=>(Qda e.text w5).mono fun r w' h=>⟨(),h.1,h.2⟩,?_⟩;intro _ w6 h6
   obtain rfl:w6=w5:=by
    rcases h6 with⟨_,h⟩ | ⟨_,h⟩ <;> exact h
   clear h6
   conv=>whnf
   refine⟨?_,hx5⟩;unfold Qeh;rw[k1,cond_false,k2,cond_false,k3,cond_true]
   cases Qm e.person <;> cases decide (e.item=⟨#[]⟩) <;> cases Qm e.text <;> cases decide (e.val=0) <;> rfl
 conv=>whnf
 refine⟨fun k4' => ?_,fun k4' => ?_⟩
 · (conv=>whnf)
   refine⟨_,hb5.one rfl,?_⟩;conv=>whnf
   refine⟨_,fun _=>hb5.one rfl,?_⟩;conv=>whnf
   refine⟨_,fun _=>hb5.one rfl,?_⟩;conv=>whnf
   refine⟨_,fun _=>hb5.one rfl,?_⟩;conv=>whnf
   refine⟨Unit,fun _ => .bool (Qb1 e.text),fun _ w'=>Ext w5 w',(),fun _=>(Qrl e.text w5 hg5 hs).mono fun r w' h=>⟨(),h.1,h.2⟩,?_⟩;intro _ w6 h6
   have hx6:Ext w5 w6:=by
    rcases h6 with⟨_,h⟩ | ⟨_,h⟩
    · exact h
    · rw[h];exact Ext.refl _
   clear h6
   conv=>whnf
   refine⟨?_,hx5.trans hx6⟩;unfold Qeh inB;rw[k1,cond_false,k2,cond_false,k3,cond_false,k4',cond_true]
   cases decide (e.person=⟨#[]⟩) <;> cases Qm e.item <;> cases Qb1 e.text <;> cases decide (0≤e.val) <;> cases decide (e.val≤1048576) <;> rfl
 conv=>whnf
 refine⟨fun k5 => ?_,fun k5 => ?_⟩
 · (conv=>whnf)
   refine⟨_,hb5.one rfl,?_⟩;conv=>whnf
   refine⟨_,fun _=>hb5.one rfl,?_⟩;conv=>whnf
   refine⟨_,fun _=>hb5.one rfl,?_⟩;conv=>whnf
   refine⟨?_,hx5⟩;unfold Qeh inB;rw[k1,cond_false,k2,cond_false,k3,cond_false,k4',cond_false,k5,cond_true]
   cases decide (e.person=⟨#[]⟩) <;> cases Qm e.item <;> cases decide (e.text=⟨#[]⟩) <;> cases decide (0≤e.val) <;> cases decide (e.val≤1048576) <;> rfl
 conv=>whnf
 refine⟨fun k7 => ?_,fun k7 => ?_⟩
 · (conv=>whnf)
   refine⟨_,hb5.one rfl,?_⟩;conv=>whnf
   refine⟨_,fun _=>hb5.one rfl,?_⟩;conv=>whnf
   refine⟨?_,hx5⟩;unfold Qeh;rw[k1,cond_false,k2,cond_false,k3,cond_false,k4',cond_false,k5,cond_false,k7,cond_true]
   cases decide (e.person=⟨#[]⟩) <;> cases Qm e.item <;> cases decide (e.text=⟨#[]⟩) <;> cases decide (e.val=0) <;> rfl
 conv=>whnf
 refine⟨fun k8 => ?_,fun k8 => ?_⟩
 · (conv=>whnf)
   refine⟨_,fun _=>hb5.one rfl,?_⟩;conv=>whnf
   refine⟨_,fun _=>hb5.one rfl,?_⟩;conv=>whnf
   refine⟨?_,hx5⟩;unfold Qeh;rw[k1,cond_false,k2,cond_false,k3,cond_false,k4',cond_false,k5,cond_false,k7,cond_false,k8,cond_true]
   cases Qm e.person <;> cases decide (e.item=⟨#[]⟩) <;> cases decide (e.text=⟨#[]⟩) <;> cases decide (e.val=0) <;> rfl
 conv=>whnf
 refine⟨?_,hx5⟩;unfold Qeh;rw[k1,cond_false,k2,cond_false,k3,cond_false,k4',cond_false,k5,cond_false,k7,cond_false,k8]
 rfl
def Qv (e:Ev):Int:=if e.kind=1 then 1 else if e.kind=2 then 3 else if e.kind=3 then 5 else if e.kind=4 then e.val else 0
theorem Qhq (e:Ev) (w:World):Cal Tryz.prog 119 [evV e] w fun r w'=>r = .int .i64 (Qv e)∧Ext w w':=by
 refine Fi Tryz.func119 rfl _ rfl rfl ?_;conv=>whnf
 intro b w1 hn;have hb:=hn.At
 conv=>whnf
 refine⟨_,hb.one rfl,?_⟩;conv=>whnf
 refine⟨fun h1 => ?_,fun h1 => ?_⟩
 · have h1:e.kind=1:=by simpa using h1
   conv=>whnf
   exact⟨by unfold Qv;rw[if_pos h1],hn.ext⟩
 have h1:¬ e.kind=1:=by simpa using h1
 conv=>whnf
 refine⟨fun h2 => ?_,fun h2 => ?_⟩
 · have h2:e.kind=2:=by simpa using h2
   conv=>whnf
   exact⟨by unfold Qv;rw[if_neg h1,if_pos h2],hn.ext⟩
 have h2:¬ e.kind=2:=by simpa using h2
 conv=>whnf
 refine⟨fun h3 => ?_,fun h3 => ?_⟩
 · have h3:e.kind=3:=by simpa using h3
   conv=>whnf
   exact⟨by unfold Qv;rw[if_neg h1,if_neg h2,if_pos h3],hn.ext⟩
 have h3:¬ e.kind=3:=by simpa using h3
 conv=>whnf
 refine⟨fun h4 => ?_,fun h4 => ?_⟩
 · have h4:e.kind=4:=by simpa using h4
   conv=>whnf
   refine⟨_,hb.one rfl,?_⟩;conv=>whnf
   exact⟨by unfold Qv;rw[if_neg h1,if_neg h2,if_neg h3,if_pos h4],hn.ext⟩
 have h4:¬ e.kind=4:=by simpa using h4
 conv=>whnf
 exact⟨by unfold Qv;rw[if_neg h1,if_neg h2,if_neg h3,if_neg h4],hn.ext⟩
theorem Xm {s:ByteArray} (h:Qm s=true):1≤s.size∧s.size≤24:=by
 unfold Qm at h;simp only[Bool.and_eq_true,decide_eq_true_eq] at h
 exact h.1
theorem Qjg {s:ByteArray} (h:s=⟨#[]⟩):s.size=0:=by rw[h];rfl
theorem Qhr {n lo hi:Int}:inB n lo hi=true↔lo≤n∧n≤hi:=by simp[inB]
structure Q96 (e:Ev):Prop where
 src:Qm e.src=true
 num:1≤e.num∧e.num≤1099511627776
 at_:0≤e.at_∧e.at_≤1099511627776
 kind:Qeh e=true
theorem Qb8 {e:Ev}:Xw e=true↔Q96 e:=by
 unfold Xw;simp only[Bool.and_eq_true,Qhr]
 exact⟨fun h=>⟨h.1.1.1,h.1.1.2,h.1.2,h.2⟩,fun h=>⟨⟨⟨h.src,h.num⟩,h.at_⟩,h.kind⟩⟩
theorem Qbm {e:Ev} (h:Qeh e=true) :
 ((e.kind=0∨e.kind=1∨e.kind=2∨e.kind=3∨e.kind=5∨e.kind=6)∧Qm e.person=true∧Qm e.item=true∧e.text=⟨#[]⟩∧e.val=0) ∨
 (e.kind=4∧Qm e.person=true∧Qm e.item=true∧e.text=⟨#[]⟩∧1≤e.val∧e.val≤5) ∨
 ((e.kind=7∨e.kind=8∨e.kind=9∨e.kind=10)∧Qm e.person=true∧e.item=⟨#[]⟩∧Qm e.text=true∧e.val=0) ∨
 (e.kind=11∧e.person=⟨#[]⟩∧Qm e.item=true∧Qb1 e.text=true∧0≤e.val∧e.val≤1048576) ∨
 (e.kind=12∧e.person=⟨#[]⟩∧Qm e.item=true∧e.text=⟨#[]⟩∧0≤e.val∧e.val≤1048576) ∨
 (e.kind=13∧e.person=⟨#[]⟩∧Qm e.item=true∧e.text=⟨#[]⟩∧e.val=0) ∨
 (e.kind=14∧Qm e.person=true∧e.item=⟨#[]⟩∧e.text=⟨#[]⟩∧e.val=0):=by
 unfold Qeh at h
 cases h1:k6 e <;> simp only[h1,cond_true,cond_false] at h
 · cases h2:decide (e.kind=4) <;> simp only[h2,cond_true,cond_false] at h
   · cases h3:k4 e <;> simp only[h3,cond_true,cond_false] at h
     · cases h4:decide (e.kind=11) <;> simp only[h4,cond_true,cond_false] at h
       · cases h5:decide (e.kind=12) <;> simp only[h5,cond_true,cond_false] at h
         · cases h6:decide (e.kind=13) <;> simp only[h6,cond_true,cond_false] at h
           · cases h7:decide (e.kind=14) <;> simp only[h7,cond_true,cond_false] at h
             · cases h
             · simp[Bool.and_eq_true,Qhr] at h h7
               simp[*]
           · simp[Bool.and_eq_true,Qhr] at h h6
             simp[*]
         · simp[Bool.and_eq_true,Qhr] at h h5
           simp[*]
       · simp[Bool.and_eq_true,Qhr] at h h4
         simp[*]
     · simp[Bool.and_eq_true,Qhr] at h
       unfold k4 at h3
       simp at h3
       simp[*]
       omega
   · simp[Bool.and_eq_true,Qhr] at h h2
     simp[*]
 · simp[Bool.and_eq_true,Qhr] at h
   unfold k6 at h1
   simp at h1
   simp[*]
   omega
theorem Qun {e:Ev} (h:Xw e=true) (ht:e.text.size<1000000):FOk e:=by
 have h:=Qb8.1 h;have hs:=Xm h.src;have hn:=h.num;have ha:=h.at_
 rcases Qbm h.kind with⟨k,p,i,t,v⟩ | ⟨k,p,i,t,v⟩ | ⟨k,p,i,t,v⟩ | ⟨k,p,i,t,v⟩ | ⟨k,p,i,t,v⟩ | ⟨k,p,i,t,v⟩ | ⟨k,p,i,t,v⟩ <;>
  (refine⟨by omega,by omega,by omega,by omega,by omega,?_,?_,ht⟩ <;> first | (have:=Xm p;omega) | (have:=Xm i;omega) | (have:=Qjg p;omega) | (have:=Qjg i;omega))
theorem Q7m:Qqr Tryz.prog 53:=⟨_,Tryz.func53,rfl,rfl⟩
theorem Qar (n:Int) (w:World) (hg:Gl w) (h0:0≤n) (h1:n<9223372036854775808):Cal Tryz.prog 53 [.int .i64 n] w fun r w'=>r = .string (Qqu n.toNat)∧Ext w w':=by
 refine Qb9 Q7m (Tryz.strconv_Itoa n (by omega) (by omega) w hg.pow10) ?_;rintro w' ⟨k,os,rfl⟩;refine⟨?_,(Qlr w k).trans (Qhc _ _)⟩;have:n=(n.toNat:Int):=by omega
 unfold Qqu bytesOf;rw[← Lib.itoa_nonneg,← this]
theorem Q1z:Qqr Tryz.prog 58:=⟨_,Tryz.func58,rfl,rfl⟩
theorem Q60 (n:Nat):Qqu n≠⟨#[]⟩:=fun e=>by
 have:=congrArg ByteArray.size e;unfold Qqu at this;rw[Qc9] at this;have h0:(⟨#[]⟩:ByteArray).size=0:=rfl;rw[h0] at this;have h1:=List.length_eq_zero_iff.1 this;rw[Lib.decDigits] at h1
 split at h1 <;> simp at h1
theorem Qlc {s:ByteArray} (h:s≠⟨#[]⟩):Xx s=s:=by unfold Xx;rw[decide_eq_false h];rfl
theorem Q80 {e:Ev} (h:0≤e.kind∧e.kind<15):knB e≠⟨#[]⟩:=by
 unfold knB;obtain⟨k,hk⟩:∃ k:Nat,e.kind=k:=⟨e.kind.toNat,by omega⟩;rw[hk];have:k<15:=by omega
 intro e0;have:=congrArg ByteArray.size e0;rcases k with _ | _ | _ | _ | _ | _ | _ | _ | _ | _ | _ | _ | _ | _ | _ | k <;> first | (exact absurd this (by decide)) | omega
def Qay (e:Ev):List ByteArray := [e.src,Qqu e.num.toNat,Qqu e.at_.toNat,knB e,e.person,e.item,Qqu e.val.toNat,e.text]
theorem Q4q {e:Ev} (hs:e.src≠⟨#[]⟩) (hk:0≤e.kind∧e.kind<15):(⟨(Lib.join ((((Qay e).map Xx)).map (·.data.toList)) [32]).toArray⟩:ByteArray)=Qpj e:=by
 unfold Qay;simp only[List.map_cons,List.map_nil,Qlc hs,Qlc (Q60 _),Qlc (Q80 hk)]
 apply ByteArray.ext
 apply Array.ext'
 simp[Lib.join,List.intercalate,List.intersperse,Qpj,spB]
theorem Qrf {e:Ev} (hf:FOk e):(Qpj e).size≤10000000:=by
 have h1:=hf.src;have h2:=hf.person;have h3:=hf.item;have h4:=hf.text;have d1:=Qec e.num.toNat (by have:=hf.num;omega);have d2:=Qec e.at_.toNat (by have:=hf.at_;omega);have d3:=Qec e.val.toNat (by have:=hf.val;omega)
 have hs:∀ s:ByteArray,s.size<1000000→(Xx s).size<1000000:=by
  intro s h;unfold Xx
  cases decide (s=⟨#[]⟩)
  · exact h
  · exact(by decide:(⟨#[46]⟩:ByteArray).size<1000000)
 have s1:=hs _ h2;have s2:=hs _ h3;have s3:=hs _ h4
 have hk:(knB e).size≤10:=by
  unfold knB;obtain⟨k,hk⟩:∃ k:Nat,e.kind=k:=⟨e.kind.toNat,by have:=hf.kind;omega⟩;rw[hk];have:k<15:=by have:=hf.kind;omega
  rcases k with _ | _ | _ | _ | _ | _ | _ | _ | _ | _ | _ | _ | _ | _ | _ | k <;> first | decide | omega
 have hsp:spB.size=1:=rfl;unfold Qpj;simp only[ByteArray.size_append];omega
theorem Qt9 (e:Ev) (w:World) (hg:Gl w) (hm:Xw e=true) (hf:FOk e) :
 Cal Tryz.prog 54 [evV e] w fun r w'=>r = .string (Qpj e)∧Ext w w':=by
 refine Fi Tryz.func54 rfl _ rfl rfl ?_;conv=>whnf
 intro b w1 hn;have hb:=hn.At
 conv=>whnf
 refine⟨evC e,⟨rfl,hb.all⟩,?_⟩;conv=>whnf
 refine(Qk5 e w1 (hg.ext hn.ext) (by have:=hf.text;omega)).mono ?_;rintro _ w2 ⟨rfl,hx2⟩;conv=>whnf
 rw[hm];constructor
 · intro h;cases h
 intro _;have hkk:=hf.kind;obtain⟨k,hk⟩:∃ k:Nat,e.kind=k:=⟨e.kind.toNat,by omega⟩
 conv=>whnf
 refine Dr .ext [0,1,2,3,5,6,8,9,10,11,12,13,14,15,16,17,19,20,4,7,18] [21,22] ?_;conv=>whnf
 have hb2:At w2.drew b 34 (evC e):=hb.ext hx2.drew;have hx3:Ext w w2.drew:=(hn.ext.trans hx2).drew;generalize w2.drew=w3 at hb2 hx3 ⊢;have hg3:=hg.ext hx3;refine⟨_,hb2.one rfl,?_⟩;conv=>whnf
 refine⟨_,hb2.one rfl,?_⟩;conv=>whnf
 refine⟨_,hb2.one rfl,?_⟩;conv=>whnf
 refine⟨_,hb2.one rfl,?_⟩;conv=>whnf
 have hcell:w3.cell? ((⟨0,0,none⟩:Addr).add (e.kind.toNat*1))=some (.string (knB e)):=by
  have:=hg3.kinds k (.string (knB e)) (by
   unfold knB;rw[hk];have:k<15:=by omega
   rcases k with _ | _ | _ | _ | _ | _ | _ | _ | _ | _ | _ | _ | _ | _ | _ | k <;> first | rfl | omega)
  rw[hk]
  simpa using this
 refine⟨⟨hkk.1,hkk.2⟩,?_⟩;conv=>whnf
 refine⟨.string (knB e),hcell,?_⟩;conv=>whnf
 refine⟨_,hb2.one rfl,?_⟩;conv=>whnf
 refine⟨_,hb2.one rfl,?_⟩;conv=>whnf
 refine⟨_,hb2.one rfl,?_⟩;conv=>whnf
 refine⟨_,hb2.one rfl,?_⟩;conv=>whnf
 refine(Qar e.num w3 hg3 hf.num.1 hf.num.2).mono ?_;rintro _ w4 ⟨rfl,hx4⟩;refine⟨hx4,?_⟩;conv=>whnf
 refine(Qar e.at_ w4 (hg3.ext hx4) hf.at_.1 hf.at_.2).mono ?_;rintro _ w5 ⟨rfl,hx5⟩;refine⟨hx5,?_⟩;conv=>whnf
 refine(Qar e.val w5 ((hg3.ext hx4).ext hx5) hf.val.1 hf.val.2).mono ?_;rintro _ w6 ⟨rfl,hx6⟩;refine⟨hx6,?_⟩;conv=>whnf
 intro b7 w7 hn7;have hx7:Ext w w7:=((((hx3.trans hx4).trans hx5).trans hx6).trans hn7.ext);have hb7:At w7 b7 9 ((Qay e).map Value.string):=hn7.At;have hbb:w.heap.size≤b7:=by rw[hn7.block];exact(((hx3.trans hx4).trans hx5).trans hx6).size
 conv=>whnf
 have hwl:(Qay e).length=8:=rfl
 refine Qe Qa (fun(k:Nat) w'=>k≤8∧Ext w w'∧At w' b7 9 (((Qay e).take k).map (fun s=>Value.string (Xx s))++((Qay e).drop k).map Value.string))
  (fun k => [(3,.slice (some ⟨b7,0,none⟩) 8 8),(31,.slice (some ⟨b7,0,none⟩) 8 8),(32,.int .i64 8),(33,.int .i64 k)]) (fun k=>8-k) 0 ⟨by omega,hx7,by simpa using hb7⟩ ⟨rfl,rfl,rfl,rfl,trivial⟩ ?_
 clear hb7 hx7 hn7 hb2 hb hn;rintro k w8 ⟨hk8,hx8,hb8⟩
 conv=>whnf
 constructor
 · intro hlt
   have hlt:k<8:=by simp at hlt;omega
   have hkl:k<(Qay e).length:=by omega
   rw[List.drop_eq_getElem_cons hkl,List.map_cons] at hb8;have htk:(Qay e).take (k+1)=(Qay e).take k ++ [(Qay e)[k]]:=List.take_succ_eq_append_getElem hkl;have hcell:=hb8.cell k;rw[List.getElem?_append_right (by simp;omega)] at hcell;rw[show k-(((Qay e).take k).map (fun s=>Value.string (Xx s))).length=0 by simp;omega] at hcell;generalize hx:(Qay e)[k]=x at hb8 htk hcell
   have hcell:w8.cell? ((⟨b7,0,none⟩:Addr).add ((k:Int).toNat*1))=some (.string x):=by
    rw[show ((k:Int).toNat*1)=k by simp,Xp];simpa using hcell
   conv=>whnf
   refine Xk Qa (ι:=Unit) (fun _ => [(3,.slice (some ⟨b7,0,none⟩) 8 8),(31,.slice (some ⟨b7,0,none⟩) 8 8),(32,.int .i64 8),(33,.int .i64 k)])
    (fun _ w'=>Ext w w'∧At w' b7 9 (((Qay e).take (k+1)).map (fun s=>Value.string (Xx s))++((Qay e).drop (k+1)).map Value.string)) ?_ ?_
   · (conv=>whnf)
     refine⟨⟨b7,0,none⟩,⟨rfl,by omega,by omega⟩,?_⟩;conv=>whnf
     refine⟨.string x,hcell,?_⟩;conv=>whnf
     constructor
     · intro h
       have h:x=⟨#[]⟩:=by simpa using h
       conv=>whnf
       refine⟨⟨b7,0,none⟩,⟨rfl,by omega,by omega⟩,?_⟩;conv=>whnf
       have hadr:(⟨b7,0,none⟩:Addr).add ((k:Int).toNat*1)=⟨b7,k,none⟩:=by rw[Xp];simp
       rw[hadr];refine Qle Qa (e:=ty9) rfl hb8 rfl ?_ (by simp[Qq,Value.oneCell']) fun w9 h9 ho9 => ?_
       · show k+1≤_
         simp;omega
       conv=>whnf
       refine⟨(),⟨ho9.ext hx8 hbb,?_⟩,⟨rfl,rfl,rfl,rfl,trivial⟩⟩;rw[htk]
       have hsp:spl (((Qay e).take k).map (fun s=>Value.string (Xx s))++Value.string x :: ((Qay e).drop (k+1)).map Value.string) k (Qq (.string ⟨#[46]⟩))=((Qay e).take k ++ [x]).map (fun s=>Value.string (Xx s))++((Qay e).drop (k+1)).map Value.string:=by
        have hl:(((Qay e).take k).map (fun s=>Value.string (Xx s))).length=k:=by simp;omega
        unfold spl Qq;rw[List.take_append_of_le_length (by omega),List.take_of_length_le (by omega),List.drop_append,hl];rw[List.drop_of_length_le (by simp;omega)];simp only[List.length_cons,List.length_nil,Nat.zero_add,List.nil_append];rw[show k+1-k=1 by omega,h]
        simp[Xx]
       rw[← hsp];exact h9
     · intro h
       have h:¬ x=⟨#[]⟩:=by simpa using h
       conv=>whnf
       refine⟨(),⟨hx8,?_⟩,⟨rfl,rfl,rfl,rfl,trivial⟩⟩;rw[htk]
       simpa [Qlc h] using hb8
   rintro _ w9 ⟨hx9,hb9⟩
   conv=>whnf
   refine⟨_,wrap_succ (by omega),?_⟩;conv=>whnf
   exact⟨k+1,by omega,⟨by omega,hx9,hb9⟩,⟨rfl,rfl,rfl,rfl,trivial⟩⟩
 · intro hge
   have hge:k=8:=by simp at hge;omega
   subst hge
   have hb9:At w8 b7 9 (((Qay e).map Xx).map Value.string):=by
    have h1:(Qay e).take 8=Qay e:=rfl;have h2:(Qay e).drop 8 = []:=rfl;rw[h1,h2] at hb8;have h3:((Qay e).map Xx).map Value.string=(Qay e).map (fun s=>Value.string (Xx s)):=by rw[List.map_map];rfl
    rw[h3]
    simpa using hb8
   conv=>whnf
   have hcells:∀ (j:Nat) x,((Qay e).map Xx)[j]? = some x→w8.cell? ⟨b7,0+j,none⟩=some (.string x):=by
    intro j x hj;rw[Nat.zero_add,hb9.cell j,List.getElem?_map,hj];rfl
   have hsrc:e.src≠⟨#[]⟩:=fun h0=>by
    have:=(Xm (Qb8.1 hm).src).1;rw[Qjg h0] at this;omega
   have hjf:=Q4q hsrc hkk;refine(Qb9 Q1z (Tryz.strings_Join b7 0 8 ((Qay e).map Xx) ⟨#[32]⟩ w8 hcells hb9.lt (by simp[Qay]) (by simp[Qay]) ?_) (R:=fun r w'=>r = .string (Qpj e)∧Ext w8 w') ?_).mono ?_
   · have h1:=Qrf hf
     rw[← hjf] at h1;have h2:∀ L:List UInt8,(⟨L.toArray⟩:ByteArray).size=L.length:=fun L=>by simp[ByteArray.size]
     rw[h2] at h1;show (Lib.join (((Qay e).map Xx).map (·.data.toList)) [32]).length≤_
     omega
   · intro w' hw'
     exact⟨by rw[← hjf],hw'⟩
   · rintro _ w10 ⟨rfl,hx10⟩;conv=>whnf
     exact⟨rfl,hx8.trans hx10⟩
theorem Qrv (c:UInt8):∀ l:List UInt8,((partsOf c l).map (fun p=>p.length+1)).sum=l.length+1
 | []=>by simp[partsOf]
 | x :: r=>by
   have ih:=Qrv c r;unfold partsOf
   by_cases hx:x=c
   · rw[if_pos hx];simp at ih ⊢;omega
   · rw[if_neg hx]
     cases hp:partsOf c r with
     | nil=>exact absurd hp (Q44 c r)
     | cons q t=>rw[hp] at ih;simp at ih ⊢;omega
theorem Q6o {α:Type} (f:α→Nat) (n:Nat):∀ l:List α,(∀ x∈l,f x≤n)→(l.map f).sum≤l.length*n
 | [],_=>by simp
 | a :: l,h=>by
   have h1:=h a (by simp);have h2:=Q6o f n l fun x hx=>h x (by simp[hx])
   simp[Nat.add_mul];omega
theorem Qbf {s:ByteArray} (h:Qm s=true):s.size≤24:=(Xm h).2
theorem Qzv {l:List ByteArray} (h:Qgb l=true):∀ x∈l,Qm x=true:=by
 intro x hx;obtain⟨i,hi,rfl⟩:=List.getElem_of_mem hx;unfold Qgb at h;rw[List.all_eq_true] at h;have h1:=h i (List.mem_range.2 hi);unfold Qmw at h1;rw[getD_lt hi] at h1
 simp at h1
 exact h1.1
theorem Qyk {s:ByteArray} (h:Qb1 s=true):s.size<1000:=by
 unfold Qb1 at h;simp only[Bool.and_eq_true,decide_eq_true_eq] at h;obtain⟨⟨h1,h2⟩,h3,h4⟩:=h;obtain⟨i,hi⟩:=Option.isSome_iff_exists.1 h1;have hlt:=Qgs hi;have hm:=Qbf h2;unfold Qas at hm;rw[hi] at hm
 simp at hm
 by_cases hz:i+1=s.size
 · omega
 · rw[Qmx hi hz] at h3 h4
   have hs:=Qrv 44 (s.extract (i+1) s.size).data.toList
   have hb:=Q6o (fun p:List UInt8=>p.length+1) 25 (partsOf 44 (s.extract (i+1) s.size).data.toList) fun p hp=>by
    have:=Qbf (Qzv h3 (bytesOf p) (List.mem_map.2 ⟨p,hp,rfl⟩));have e:(bytesOf p).size=p.length:=by simp[bytesOf,ByteArray.size]
    omega
   unfold Qbp at h4;rw[List.length_map] at h4;have he:(s.extract (i+1) s.size).data.toList.length=s.size-(i+1):=by simp
   rw[he] at hs;have:(partsOf 44 (s.extract (i+1) s.size).data.toList).length*25≤8*25:=Nat.mul_le_mul_right _ h4;omega
theorem Qet {e:Ev} (h:Xw e=true):e.text.size<1000:=by
 have hk:=Qbm (Qb8.1 h).kind;have h0:(⟨#[]⟩:ByteArray).size=0:=rfl;rcases hk with⟨_,_,_,h,_⟩ | ⟨_,_,_,h,_⟩ | ⟨_,_,_,h,_⟩ | ⟨_,_,_,h,_⟩ | ⟨_,_,_,h,_⟩ | ⟨_,_,_,h,_⟩ | ⟨_,_,_,h,_⟩
 · rw[h,h0];omega
 · rw[h,h0];omega
 · have:=Qbf h;omega
 · exact Qyk h
 · rw[h,h0];omega
 · rw[h,h0];omega
 · rw[h,h0];omega
theorem Qw8 {e:Ev} (h:Xw e=true):0≤e.kind∧e.kind≤14:=by
 have hk:=Qbm (Qb8.1 h).kind;omega
theorem Qdg {e:Ev} (h:Xw e=true):0≤Qv e∧Qv e≤5:=by
 have hk:=Qbm (Qb8.1 h).kind;unfold Qv
 repeat' split
 all_goals omega
theorem Qcj {e:Ev} (h:Xw e=true) (hw:0<Qv e):Qm e.person=true∧Qm e.item=true:=by
 have hk:=Qbm (Qb8.1 h).kind
 have:e.kind=1∨e.kind=2∨e.kind=3∨e.kind=4:=by
  unfold Qv at hw
  by_cases h1:e.kind=1
  · omega
  by_cases h2:e.kind=2
  · omega
  by_cases h3:e.kind=3
  · omega
  by_cases h4:e.kind=4
  · omega
  rw[if_neg h1,if_neg h2,if_neg h3,if_neg h4] at hw;omega
 rcases hk with hk | hk | hk | hk | hk | hk | hk
 · exact⟨hk.2.1,hk.2.2.1⟩
 · exact⟨hk.2.1,hk.2.2.1⟩
 all_goals exfalso;omega
theorem Qiu (s:ByteArray):(Qaj s).size≤s.size:=by
 unfold Qaj
 split
 · rw[ByteArray.size_extract];omega
 · exact Nat.zero_le _
end Go.Proofs.YtdahooejkjcjiaaGreatDoor
namespace Go.Proofs.YtdahooejkjcjiaaGreatDoor
open Go.Se
def idE (e:Ev):ByteArray×Int:=(e.src,e.num)
end Go.Proofs.YtdahooejkjcjiaaGreatDoor
namespace Go.Proofs.YtdahooejkjcjiaaGreatDoor
open Go.Se Go.RowKit
def Grow (S:Nat→Prop) (w:World) (k:Nat):Prop:=S k∨w.heap.size≤k
theorem Qr {S:Nat→Prop} {w w':World} {row:Option Nat} (hg:w.grownBy w' row) (hr:∀ k,row=some k→S k):Mod S w w' :=
 ⟨hg.os,hg.tape,hg.output,hg.size,fun k hk hs=>hg.block k hk (fun e=>hs (hr k e.symm))⟩
theorem Qn {S:Nat→Prop} {w w':World} {b:Nat} (ho:Only w w' b) (hb:S b):Mod S w w':=ho.mod.mono fun k _ e=>by rw[e];exact hb
theorem Xa {S:Nat→Prop} {w w1 w2:World} (h:Mod S w w1) (k:Mod (Grow S w) w1 w2):Mod S w w2 :=
 ⟨k.os.trans h.os,k.tape.trans h.tape,k.output.trans h.output,Nat.le_trans h.size k.size,fun i hi hs =>
  (k.block i (Nat.lt_of_lt_of_le hi h.size) (fun hg=>hg.elim hs (fun hh=>by omega))).trans (h.block i hi hs)⟩
theorem Qh {P:Program} {T:Tab} (hT:Qbh P T) {t:TypeId} {e:TyE} (ht:Qh7 T t=some e) {w:World} {R:Value→World→Prop} {b tb off:Nat} {l:List Value} {v:Value} {p:Addr} (h:At w b tb l) (hp:p=⟨b,off,none⟩) (hn:(Qq v).length=e.size) (hle:Nat.ble (off+e.size) l.length=true) (hone:∀ u∈Qq v,u.oneCell'=true)
 (hk:∀ w',At w' b tb (spl l off (Qq v))→Only w w' b→R undef w'):Qz7 P (Instr.storeAt t (.pointer (some p)) v) w R:=by
 subst hp;exact Qle hT ht h hn (Nat.le_of_ble_eq_true hle) hone hk
section
variable {α:Type} {enc:α→List Value} {sz:Nat} {te:TypeId} {w w1 w2 w3:World} {S S':Nat→Prop} {bm:Nat} {rows:ByteArray→List α} {L:List (ByteArray×(Option Addr×Nat))} {P:Program} {mt kt et:TypeId}
def toV (rows:ByteArray→List α) (L:List (ByteArray×(Option Addr×Nat))):List (ByteArray×Value):=L.map fun x=>(x.1,Value.slice x.2.1 (rows x.1).length x.2.2)
structure Qcs (enc:α→List Value) (sz:Nat) (te:TypeId) (w:World) (S:Nat→Prop) (bm:Nat) (rows:ByteArray→List α) (L:List (ByteArray×(Option Addr×Nat))):Prop where
 mine:S bm
 map:MapAt w bm Value.string (toV rows L)
 row:∀ x∈L,Own enc sz te 0 w x.2.1 x.2.2 (rows x.1)∧∀ a,x.2.1=some a→S a.block∧a.block≠bm
 ne:∀ x∈L,rows x.1 ≠ []
 apart:L.Pairwise (fun x y=>∀ a a',x.2.1=some a→y.2.1=some a'→a.block≠a'.block)
 all:∀ k,Qd L k=none→rows k = []
theorem Qcs.keys (h:Qcs enc sz te w S bm rows L):L.Pairwise (fun x y=>x.1≠y.1):=by
 have:=h.map.keys;unfold toV at this;rw[List.pairwise_map] at this
 exact this
theorem Qw5 (k:ByteArray):∀ L:List (ByteArray×(Option Addr×Nat)),Qd (toV rows L) k=(Qd L k).map fun p=>Value.slice p.1 (rows k).length p.2
 | []=>rfl
 | x :: L=>by
   simp only[toV,List.map_cons,Qd]
   by_cases e:k=x.1
   · subst e;simp
   · rw[if_neg e,if_neg e];exact Qw5 k L
theorem Qcs.keep (h:Qcs enc sz te w S bm rows L) (hk:∀ k,k<w.heap.size→S k→w1.heap[k]? = w.heap[k]? ∧ S' k):Qcs enc sz te w1 S' bm rows L where
 mine:=(hk bm h.map.lt h.mine).2
 map:=h.map.keep (hk bm h.map.lt h.mine).1
 row x hx:=by
  obtain⟨h1,h2⟩:=h.row x hx
  exact⟨h1.keep fun a ha=>(hk a.block (h1.block ha).2 (h2 a ha).1).1,fun a ha=>⟨(hk a.block (h1.block ha).2 (h2 a ha).1).2,(h2 a ha).2⟩⟩
 ne:=h.ne
 apart:=h.apart
 all:=h.all
def rowAt (L:List (ByteArray×(Option Addr×Nat))) (k:ByteArray):Option Addr×Nat:=(Qd L k).getD (none,0)
theorem Qcs.own (h:Qcs enc sz te w S bm rows L) (k:ByteArray):Own enc sz te 0 w (rowAt L k).1 (rowAt L k).2 (rows k)∧∀ a,(rowAt L k).1=some a→S a.block∧a.block≠bm:=by
 unfold rowAt
 cases hk:Qd L k with
 | none=>rw[h.all k hk];exact⟨Own.nil,fun a ha=>by simp at ha⟩
 | some p =>
   have:=h.row _ (Qbj hk)
   exact this
theorem Qcs.look (h:Qcs enc sz te w S bm rows L) (ht:P.underlying mt=some (.map kt et)) (hkt:P.underlying kt=some .string) {e:TyE} (he:X5 P et=some e) (hz:e.zero = .slice none 0 0) (k:ByteArray) {cl:Cl} (hc:Kept cl w bm) :
 RdS P cl w (Instr.lookup mt (.map (some bm)) (.string k) false) (.slice (rowAt L k).1 (rows k).length (rowAt L k).2):=by
 have:=Qbx ht (Xc hkt) he hc h.map k;rw[Qw5,hz] at this;unfold rowAt
 cases hk:Qd L k with
 | none=>rw[hk] at this;rw[h.all k hk];exact this
 | some p=>rw[hk] at this;exact this
def Qno (rows:ByteArray→List α) (k:ByteArray) (r:List α) (x:ByteArray):List α:=if x=k then r else rows x
theorem Qxo {k:ByteArray} {p:Option Addr×Nat} {r:List α}:∀ {L:List (ByteArray×(Option Addr×Nat))},L.Pairwise (fun x y=>x.1≠y.1)→toV (Qno rows k r) (Xn L k p)=Xn (toV rows L) k (.slice p.1 r.length p.2)
 | [],_=>by simp[toV,Xn,Qno]
 | x :: L,hp=>by
   rw[List.pairwise_cons] at hp;simp only[toV,List.map_cons,Xn]
   by_cases e:k=x.1
   · subst e
     simp only[if_true,List.map_cons,Qno]
     congr 1
     apply List.map_congr_left
     intro y hy;simp only[if_neg (fun e:y.1=x.1=>hp.1 y hy e.symm)]
   · simp only[if_neg e,List.map_cons,Qno,if_neg (fun q:x.1=k=>e q.symm)]
     congr 1
     exact Qxo hp.2
theorem Qwm {β:Type} {R:ByteArray×β→ByteArray×β→Prop} {k:ByteArray} {p:β}:∀ {L:List (ByteArray×β)},L.Pairwise R→(∀ y∈L,y.1≠k→R (k,p) y)→(∀ y∈L,y.1≠k→R y (k,p))→L.Pairwise (fun x y=>x.1≠y.1)→(Xn L k p).Pairwise R
 | [],_,_,_,_=>by simp[Xn]
 | x :: L,hp,h1,h2,hk=>by
   rw[List.pairwise_cons] at hp hk;simp only[Xn]
   by_cases e:k=x.1
   · subst e
     rw[if_pos rfl,List.pairwise_cons]
     exact⟨fun y hy=>h1 y (by simp[hy]) (fun q=>hk.1 y hy q.symm),hp.2⟩
   · rw[if_neg e,List.pairwise_cons]
     refine⟨fun y hy => ?_,Qwm hp.2 (fun y hy=>h1 y (by simp[hy])) (fun y hy=>h2 y (by simp[hy])) hk.2⟩;rcases Qcf hy with rfl | hy
     · exact h2 x (by simp) (fun q=>e q.symm)
     · exact hp.1 y hy
theorem Qcs.push (h:Qcs enc sz te w S bm rows L) {k:ByteArray} {r:List α} (hr:r ≠ []) {A':Option Addr} {c':Nat} (hx:Ext w w1) (hg:w1.grownBy w2 ((rowAt L k).1.map (·.block))) (hA:A'=(rowAt L k).1∨A'.map (·.block)=(rowAt L k).1.map (·.block)∨A'.map (·.block)=some w1.heap.size)
 (hown:Own enc sz te 0 w2 A' c' r) (hm:MapAt w3 bm Value.string (Xn (toV rows L) k (.slice A' r.length c'))) (ho:Only w2 w3 bm):Qcs enc sz te w3 (Grow S w) bm (Qno rows k r) (Xn L k (A',c')):=by
 have hbm:=h.map.lt
 have hblk:∀ a,A'=some a→a.block≠bm∧Grow S w a.block∧((∃ a0,(rowAt L k).1=some a0∧a0.block=a.block)∨a.block=w1.heap.size):=by
  intro a ha;subst ha;have h2:=(h.own k).2;have hs:=hx.size;rcases hA with hA | hA | hA
  · obtain⟨q1,q2⟩:=h2 a hA.symm
    exact⟨q2,.inl q1,.inl ⟨a,hA.symm,rfl⟩⟩
  · cases hr0:(rowAt L k).1 with
    | none=>rw[hr0] at hA;simp at hA
    | some a0 =>
      rw[hr0] at hA;obtain⟨q1,q2⟩:=h2 a0 hr0;have e:a.block=a0.block:=by simpa using hA
      rw[e]
      exact⟨q2,.inl q1,.inl ⟨a0,rfl,rfl⟩⟩
  · have e:a.block=w1.heap.size:=by simpa using hA
    rw[e]
    exact⟨by omega,.inr hs,.inr rfl⟩
 have hoth:∀ x∈L,x.1≠k→Own enc sz te 0 w3 x.2.1 x.2.2 (rows x.1)∧(∀ a,x.2.1=some a→S a.block∧a.block≠bm)∧∀ a a',x.2.1=some a→A'=some a'→a.block≠a'.block:=by
  intro x hxL hne;obtain⟨h1,h2⟩:=h.row x hxL
  have hap:∀ a a0,x.2.1=some a→(rowAt L k).1=some a0→a.block≠a0.block:=by
   intro a a0 ha ha0;unfold rowAt at ha0
   cases hk:Qd L k with
   | none=>rw[hk] at ha0;simp at ha0
   | some p =>
     rw[hk] at ha0;have hin:=Qbj hk;have hpw:=h.apart
     have:∀ {L:List (ByteArray×(Option Addr×Nat))},L.Pairwise (fun x y=>∀ a a',x.2.1=some a→y.2.1=some a'→a.block≠a'.block)→x∈L→(k,p)∈L→a.block≠a0.block:=by
      intro L
      induction L with
      | nil=>intro _ h;simp at h
      | cons y L ih =>
        intro hp m1 m2;rw[List.pairwise_cons] at hp;rcases List.mem_cons.1 m1 with e1 | n1 <;> rcases List.mem_cons.1 m2 with e2 | n2
        · exact absurd (by rw[e1,← e2]) hne
        · subst e1;exact hp.1 _ n2 a a0 ha (by simpa using ha0)
        · subst e2;exact fun q=>hp.1 _ n1 a0 a (by simpa using ha0) ha q.symm
        · exact ih hp.2 n1 n2
     exact this hpw hxL hin
  refine⟨h1.keep fun a ha => ?_,h2,fun a a' ha ha' => ?_⟩
  · have hlt:=(h1.block ha).2
    have hs:=hx.size;rw[ho.block _ (h2 a ha).2,hg.block _ (by omega) ?_,hx.block _ hlt];intro e
    cases hr0:(rowAt L k).1 with
    | none=>rw[hr0] at e;simp at e
    | some a0=>rw[hr0] at e;exact hap a a0 ha hr0 (by simpa using e)
  · have hlt:=(h1.block ha).2
    have hs:=hx.size;rcases (hblk a' ha').2.2 with⟨a0,q1,q2⟩ | q
    · rw[← q2];exact hap a a0 ha q1
    · rw[q];omega
 refine⟨.inl h.mine,?_,?_,?_,?_,?_⟩
 · rw[Qxo h.keys];exact hm
 · intro x hx'
   rcases Qcf hx' with rfl | hxL
   · refine⟨?_,fun a ha=>⟨(hblk a ha).2.1,(hblk a ha).1⟩⟩
     simp only[Qno,if_true]
     exact hown.keep fun a ha=>ho.block _ (hblk a ha).1
   · by_cases e:x.1=k
     · have hin:∀ {L:List (ByteArray×(Option Addr×Nat))},L.Pairwise (fun x y=>x.1≠y.1)→x∈Xn L k (A',c')→x.1=k→x=(k,(A',c')):=by
        intro L hp hm' he;have h1:=Qdm (Qbe hp) (k:=x.1) (v:=x.2) (by simpa using hm');rw[he,Xo] at h1;have:(A',c')=x.2:=by simpa using h1
        rw[this,← he]
       have:=hin h.keys hx' e;subst this;refine⟨?_,fun a ha=>⟨(hblk a ha).2.1,(hblk a ha).1⟩⟩;simp only[Qno,if_true]
       exact hown.keep fun a ha=>ho.block _ (hblk a ha).1
     · obtain⟨q1,q2,_⟩:=hoth x hxL e
       simp only[Qno,if_neg e]
       exact⟨q1,fun a ha=>⟨.inl (q2 a ha).1,(q2 a ha).2⟩⟩
 · intro x hx'
   by_cases e:x.1=k
   · simp only[Qno,if_pos e];exact hr
   · rcases Qcf hx' with rfl | hxL
     · exact absurd rfl e
     · simp only[Qno,if_neg e];exact h.ne x hxL
 · refine Qwm h.apart (fun y hy hne a a' ha ha' => ?_) (fun y hy hne a a' ha ha' => ?_) h.keys
   · exact fun q=>(hoth y hy hne).2.2 a' a ha' ha q.symm
   · exact(hoth y hy hne).2.2 a a' ha ha'
 · intro k' hk'
   rw[X8] at hk'
   by_cases e:k'=k
   · rw[if_pos e] at hk';cases hk'
   · rw[if_neg e] at hk'
     simp only[Qno,if_neg e]
     exact h.all k' hk'
theorem Qcs.new {b:Nat} (hn:New w w1 b (.map #[] 0)) (hb:S b):Qcs enc sz te w1 S b (fun _ => []) [] :=
 ⟨hb,MapAt.new hn,by simp,by simp,by simp,fun _ _=>rfl⟩
end
theorem Qgz {α:Type} {enc:α→List Value} {sz:Nat} {w:World} {A:Option Addr} {l:List α} (h:Sl enc sz w A l) (k:Nat):Sl enc sz w A (l.take k):=fun i x hi=>by
 have hlt:i<(l.take k).length:=(List.getElem?_eq_some_iff.1 hi).1;rw[List.length_take] at hlt;rw[List.getElem?_take] at hi;rw[if_pos (by omega)] at hi
 exact h i x hi
theorem Q7t {α:Type} {enc:α→List Value} {sz:Nat} {w:World} {A:Option Addr} {l:List α} (h:Sl enc sz w A l) (k:Nat):Sl enc sz w (A.map (·.add (k*sz))) (l.drop k):=fun i x hi=>by
 rw[List.getElem?_drop] at hi;obtain⟨a,rfl,hc⟩:=h (k+i) x hi;refine⟨a.add (k*sz),rfl,?_⟩;rw[Xu,← Nat.add_mul]
 exact hc
theorem Qab {α:Type} {enc:α→List Value} {sz:Nat} {w:World} {A:Option Addr} {l:List α} (h:Sl enc sz w A l) (k c:Nat) (hc:l.length≤c):Sl enc sz w (if c=k then A else A.map (·.add (k*sz))) (l.drop k):=by
 split
 · rw[List.drop_eq_nil_of_le (by omega)];exact Sl.nil
 · exact Q7t h k
theorem Qcz {α:Type} {enc:α→List Value} {sz:Nat} {w w1:World} {A:Option Addr} {l:List α} (h:Sl enc sz w A l) (hk:∀ a,A=some a→w1.heap[a.block]? = w.heap[a.block]?):Sl enc sz w1 A l:=fun i x hi=>by
 obtain⟨a,ha,hc⟩:=h i x hi;refine⟨a,ha,fun j v hj => ?_⟩;have:=hc j v hj;rw[World.cell?_of_block (w:=w) (by rw[add_block,add_block];exact hk a ha)]
 exact this
theorem Own.base {α:Type} {enc:α→List Value} {sz te:Nat} {base base':Nat} {w:World} {A:Option Addr} {c:Nat} {l:List α} (h:Own enc sz te base w A c l) (hb:base'≤base):Own enc sz te base' w A c l:=by
 refine⟨h.1,?_⟩;rcases h.2 with h0 | ⟨g,cap,cur,hv,hg,h1⟩
 · exact .inl h0
 · exact .inr ⟨g,cap,cur,hv,by omega,h1⟩
structure Qtc {α:Type} (P:Program) (t te:TypeId) (enc:α→List Value) (sz bytes:Nat):Prop where
 und:P.underlying t=some (.slice te)
 ty:∃ ety,X5 P te=some ety∧ety.size=sz∧(Qq ety.zero).length=sz
 by_:(P.info? te).map (·.bytes)=some bytes
 small:bytes≤1000
 pos:0<sz
 sz:∀ x,(enc x).length=sz
 one:∀ x,∀ u∈enc x,u.oneCell'=true
section
variable {α:Type} {P:Program} {t te:TypeId} {enc:α→List Value} {sz bytes:Nat}
theorem Qg (R0:Qtc P t te enc sz bytes) {w:World} {A:Option Addr} {c base:Nat} {l:List α} {R:Value→World→Prop} {ty:TypeId} {n m:Nat} (hn:n=l.length) (hown:Own enc sz te base w A c l) {B:Option Addr} {cB:Nat} {news:List α} (hm:m=news.length) (hs:Sl enc sz w B news) (hl:l.length+news.length<100000000000) (hbase:base≤w.heap.size)
 (h:∀ A' c' w',Own enc sz te base w' A' c' (l++news)→w.grownBy w' (A.map (·.block))→(A'=A∨A'.map (·.block)=A.map (·.block)∨A'.map (·.block)=some w.heap.size)→R (.slice A' (l++news).length c') w') :
 Qkl P (Builtin.append_ #[t,t] ty [.slice A n c,.slice B m cB].toArray) w R:=by
 obtain⟨ety,h1,h2,h3⟩:=R0.ty;subst hn hm;have hb:(l.length+news.length)*bytes≤100000000000*1000:=Nat.mul_le_mul (by omega) R0.small
 exact Qc8 h1 R0.und R0.by_ h2 h3 R0.pos R0.sz R0.one hown hs (by omega) (by omega) hbase h
theorem Qtc.made (R0:Qtc P t te enc sz bytes) {w w1:World} {b base:Nat} (h:New w w1 b (.cells ([]:List Value).toArray te)) (hb:base≤w.heap.size):Own enc sz te base w1 (some ⟨b,0,none⟩) 0 []:=Own.made h hb
theorem Qtc.new1 (R0:Qtc P t te enc sz bytes) {w w1:World} {b:Nat} {x:α} (h:New w w1 b (.cells (enc x).toArray te)):Sl enc sz w1 (some ⟨b,0,none⟩) [x]:=by
 have h':New w w1 b (.cells ([x].flatMap enc).toArray te):=by simpa using h
 exact Qej R0.sz h'
theorem Qtc.stay (R0:Qtc P t te enc sz bytes) {w w1:World} {A:Option Addr} {l:List α} (h:Sl enc sz w A l) (hk:∀ a,A=some a→a.block<w.heap.size→w1.heap[a.block]? = w.heap[a.block]?):Sl enc sz w1 A l:=fun i x hi=>by
 obtain⟨a,ha,hc⟩:=h i x hi
 have h0:∃ v,(enc x)[0]? = some v:=by
  have:=R0.sz x;have hp:=R0.pos
  exact⟨_,List.getElem?_eq_getElem (by omega)⟩
 obtain⟨v,hv⟩:=h0;have hlt:=cell_lt (hc 0 v hv);rw[add_block,add_block] at hlt;refine⟨a,ha,fun j v hj => ?_⟩;rw[World.cell?_of_block (w:=w) (by rw[add_block,add_block];exact hk a ha hlt)]
 exact hc j v hj
theorem Qp {w:World} {A:Option Addr} {c base:Nat} {l:List α} (h:Own enc sz te base w A c l):∀ k,A.map (·.block)=some k→base≤k:=by
 intro k hk
 cases A with
 | none=>simp at hk
 | some a=>have:=h.block (a:=a) rfl;simp at hk;omega
end
theorem Qiw:Qtc Tryz.prog 24 34 evC 8 96:=⟨Qxs,⟨_,ty34_ok,rfl,rfl⟩,by34,by decide,by decide,Qaq,Qe0⟩
theorem Q9:Qtc Tryz.prog 39 9 Qa8 1 16:=⟨Q78,⟨_,ty9_ok,rfl,rfl⟩,by9,by decide,by decide,X7,Qqi⟩
end Go.Proofs.YtdahooejkjcjiaaGreatDoor
