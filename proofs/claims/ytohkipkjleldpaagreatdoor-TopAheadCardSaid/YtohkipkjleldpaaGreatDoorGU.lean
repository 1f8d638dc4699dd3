/- Several texts in one: To4, To5, To6, To7, To8. -/
import Derived.Test.YtohkipkjleldpaaGreatDoorGV
import Derived.Test.YtohkipkjleldpaaGreatDoorGI
import Derived.Test.YtohkipkjleldpaaGreatDoorGC
import Derived.ChangeKeysEq
set_option linter.unusedVariables false
set_option linter.unusedSimpArgs false
namespace Go.Proofs.YtohkipkjleldpaaGreatDoor
open Go.Se Go.RowKit
def u8C (q:Nat):List Value := [.int .u8 (q:Nat)]
def Q12 (w:World):Prop:=Xo w ⟨0,0,none⟩ (kT.map vi)
theorem Q12.ext {w w':World} (h:Q12 w) (hx:Ext w w'):Q12 w':=hx.cells h
theorem tdn {a b:Nat} (ha:a<1000000000) (hb:b≠0):((b:Nat):Int)≠0∧((a/b:Nat):Int)=IntKind.i64.wrap ((a:Int).tdiv (b:Int)):=by
 refine⟨by omega,?_⟩;have h:=Nat.div_le_self a b
 have e:(a:Int).tdiv (b:Int)=((a/b:Nat):Int):=by
  rw[Int.tdiv_eq_ediv_of_nonneg (by omega)]
  exact(Int.natCast_ediv a b).symm
 rw[e];generalize a/b=q at h ⊢
 exact wrap_i64 ⟨by omega,by omega⟩
theorem tmn {a b:Nat} (hb:b≠0):((b:Nat):Int)≠0∧((a % b:Nat):Int)=(a:Int).tmod (b:Int):=by
 refine⟨by omega,?_⟩;rw[Int.tmod_eq_emod_of_nonneg (by omega)]
 exact Int.natCast_emod a b
theorem Qym (b1:Nat) (bs:List Nat) (A:Option Addr) (c:Nat) (w:World) (h1:At w b1 22 [.slice A bs.length c]) (hs:Sl u8C 1 w A bs) (hb:∀ x∈bs,x<256) (i:Nat) :
 Cal Tryz.prog 21 [.int .i64 (i:Nat),.pointer (some ⟨b1,0,none⟩)] w fun r w'=>r = .int .i64 ((bs.getD i 0:Nat):Int)∧w'=w:=by
 refine Fi Tryz.func21 rfl _ rfl rfl (Hh ?_);refine⟨.slice A bs.length c,h1.one0,Gg ?_⟩;constructor
 · intro hlt
   have hlt:i<bs.length:=by simpa using hlt
   obtain⟨a,rfl,hc⟩:=hs.get hlt;have hx:=hb _ (List.getElem_mem hlt);have hgd:bs.getD i 0=bs[i]:=by simp[List.getD,hlt]
   rw[hgd];generalize bs[i]=x at hc hx;refine Gg ?_;refine⟨.slice (some a) bs.length c,h1.one0,Gg ?_⟩;refine⟨a,Ix,Gg ?_⟩;refine⟨.int .u8 (x:Nat),Qv hc,Gg ?_⟩;refine⟨(x:Nat),wrap_i64 ⟨by omega,by omega⟩,Gg ?_⟩
   exact⟨rfl,rfl⟩
 · intro hge
   have hge:bs.length≤i:=by simpa using hge
   rw[show bs.getD i 0=0 by simp[List.getD,hge]];refine Gg ?_
   exact⟨rfl,rfl⟩
theorem Xem:∀ n<10,Qru n=⟨#[UInt8.ofNat (48+n)]⟩:=by decide +kernel
theorem Qaj (ch n:Nat) (hn:n<10) (w:World) (hg:Gl w):Cal Tryz.prog 23 [.string ⟨#[UInt8.ofNat ch]⟩,.int .i64 (n:Nat)] w fun r w'=>r = .string (nb ch n)∧Ext w w':=by
 refine Fi Tryz.func23 rfl _ rfl rfl (Hh ?_);refine(Qev n w hg (by omega) (by omega)).mono ?_;rintro _ w2 ⟨rfl,hx⟩;rw[Int.toNat_natCast,Xem n hn];refine Gg ?_;refine⟨sz2 (show 1≤1000000000 by decide) (show 1≤1000000000 by decide),Gg ?_⟩
 exact⟨rfl,hx⟩
theorem Xbe {L:List Value} {k:Nat} {v:Value} (hk:k<L.length):spl L k [v]=L.set k v:=by
 unfold spl;rw[List.set_eq_take_append_cons_drop,if_pos hk]
 simp
def Qlm (n:Nat) (f:Nat→Nat) (k:Nat):List Value:=(List.range n).map fun j=>vi (if j<k then(f j:Nat) else 0)
theorem Qry (n:Nat) (f:Nat→Nat) (k:Nat):(Qlm n f k).length=n:=by simp[Qlm]
theorem Q28 {n:Nat} (f:Nat→Nat) {k:Nat} (hk:k<n):(Qlm n f k).set k (vi (f k:Nat))=Qlm n f (k+1):=by
 unfold Qlm
 apply List.ext_getElem?
 intro i;rw[List.getElem?_set]
 by_cases h:k=i
 · subst h
   simp[hk]
 · rw[if_neg h]
   by_cases hi:i<n
   · simp only[List.getElem?_map,List.getElem?_range hi,Option.map_some]
     have:(i<k+1)↔(i<k):=by omega
     simp only[this]
   · simp[hi]
theorem Qoj {n:Nat} {f:Nat→Nat} {k:Nat} (hk:k<n) {w:World} {b tb:Nat} (h:At w b tb (Qlm n f k)) {x:Int} (hx:x=(f k:Nat)) {R:Value→World→Prop}
 (hR:∀ w',At w' b tb (Qlm n f (k+1))→Only w w' b→R undef w'):Qub Tryz.prog (Instr.storeAt 3 (.pointer (some ((⟨b,0,none⟩:Addr).add (k*1)))) (.int .i64 x)) w R:=by
 rw[Qz,Nat.mul_one];subst hx;refine Qgx Qa (e:=ty3) rfl h rfl (by rw[Qry];show k+1≤n;omega) (by simp[Qg,Value.oneCell']) fun w' h' ho=>hR w' ?_ ho
 have e:Qg (.int .i64 ((f k:Nat):Int)) = [vi (f k:Nat)]:=rfl;rw[e,Xbe (by rw[Qry];exact hk),Q28 f hk] at h'
 exact h'
def Qd5 (k:Nat) (i:Nat):Int:=if i<k then 100 else 0
theorem Q5n (c:Cfg) (every seed:Int) {k:Nat} (hk:k<6):spl (Qas c (Qd5 k) every seed) (6+k) [vi 100]=Qas c (Qd5 (k+1)) every seed:=by
 rcases k with _ | _ | _ | _ | _ | _ | k
 · rfl
 · rfl
 · rfl
 · rfl
 · rfl
 · rfl
 · omega
theorem Q8i (c:Cfg) (a:Nat→Int) (every seed:Int):(Qas c a every seed).length=22:=rfl
theorem Q65 (b0 b1 b2 b3 b4 b5:Nat):Q96 b0 b1 b2 b3 b4 b5=⟨((1+10*b0:Nat):Int),((1+b1 % 20:Nat):Int),((1+b2 % 50:Nat):Int),(((1+b1 % 20)*(1+b3 % 4):Nat):Int),((b4 % 3:Nat):Int),((b5 % 3:Nat):Int)⟩:=by
 unfold Q96;have e1:(b1:Int).tmod 20=((b1 % 20:Nat):Int):=(tmn (b:=20) (by decide)).2.symm;have e2:(b2:Int).tmod 50=((b2 % 50:Nat):Int):=(tmn (b:=50) (by decide)).2.symm;have e3:(b3:Int).tmod 4=((b3 % 4:Nat):Int):=(tmn (b:=4) (by decide)).2.symm;have e4:(b4:Int).tmod 3=((b4 % 3:Nat):Int):=(tmn (b:=3) (by decide)).2.symm;have e5:(b5:Int).tmod 3=((b5 % 3:Nat):Int):=(tmn (b:=3) (by decide)).2.symm;rw[e1,e2,e3,e4,e5]
 push_cast
 rfl
set_option maxHeartbeats 1000000 in
theorem Qqn (b0 b1 b2 b3 b4 b5 b6 b7:Nat) (h0:b0<256) (h1:b1<256) (h2:b2<256) (h3:b3<256) (h4:b4<256) (h5:b5<256) (h6:b6<256) (h7:b7<256) (w:World) :
 Cal Tryz.prog 22 [.agg #[vi b0,vi b1,vi b2,vi b3,vi b4,vi b5,vi b6,vi b7]] w fun r w'=>r = .agg (Qas (Q96 b0 b1 b2 b3 b4 b5) (Qd5 6) ((b6 % 4:Nat):Int) (b7:Nat)).toArray∧Ext w w':=by
 rw[Q65];refine Fi Tryz.func22 rfl _ rfl rfl (Hh ?_);intro p1 w1 hn1;refine Gg ?_;have g1:At w1 p1 77 [vi b0,vi b1,vi b2,vi b3,vi b4,vi b5,vi b6,vi b7]:=hn1.At;intro p2 w2 hn2;refine Gg ?_;have g2:At w2 p2 32 (Qas ⟨0,0,0,0,0,0⟩ (Qd5 0) 0 0)∨True := .inr trivial;replace g2:=hn2.At;replace g1:=g1.ext hn2.ext;have hx2:=hn1.ext.trans hn2.ext;have e2:=hn2.block;have s1:=hn1.size;clear hn1 hn2;refine⟨⟨by omega,by omega⟩,Gg ?_⟩;refine⟨vi b1,g1.one rfl,Gg ?_⟩;refine⟨((b1 % 20:Nat):Int),tmn (b:=20) (by decide),Gg ?_⟩;refine⟨((1+b1 % 20:Nat):Int),by rw[← wrap_i64 ⟨by omega,by omega⟩];push_cast;rfl,Gg ?_⟩;refine⟨⟨by omega,by omega⟩,Gg ?_⟩;refine⟨vi b0,g1.one rfl,Gg ?_⟩;refine⟨((10*b0:Nat):Int),by rw[← wrap_i64 ⟨by omega,by omega⟩];push_cast;rfl,Gg ?_⟩;refine⟨((1+10*b0:Nat):Int),by rw[← wrap_i64 ⟨by omega,by omega⟩];push_cast;rfl,Gg ?_⟩;refine⟨⟨by omega,by omega⟩,Gg ?_⟩;refine⟨vi b2,g1.one rfl,Gg ?_⟩;refine⟨((b2 % 50:Nat):Int),tmn (b:=50) (by decide),Gg ?_⟩;refine⟨((1+b2 % 50:Nat):Int),by rw[← wrap_i64 ⟨by omega,by omega⟩];push_cast;rfl,Gg ?_⟩;refine⟨⟨by omega,by omega⟩,Gg ?_⟩;refine⟨vi b3,g1.one rfl,Gg ?_⟩;refine⟨((b3 % 4:Nat):Int),tmn (b:=4) (by decide),Gg ?_⟩;refine⟨((1+b3 % 4:Nat):Int),by rw[← wrap_i64 ⟨by omega,by omega⟩];push_cast;rfl,Gg ?_⟩;have hsp:(1+b1 % 20)*(1+b3 % 4)≤80:=Nat.mul_le_mul (show 1+b1 % 20≤20 by omega) (show 1+b3 % 4≤4 by omega);refine⟨(((1+b1 % 20)*(1+b3 % 4):Nat):Int),by rw[← Int.natCast_mul];exact wrap_i64 ⟨by omega,by omega⟩,Gg ?_⟩;generalize (1+b1 % 20)*(1+b3 % 4)=sp at hsp ⊢;refine⟨⟨by omega,by omega⟩,Gg ?_⟩;refine⟨vi b4,g1.one rfl,Gg ?_⟩;refine⟨((b4 % 3:Nat):Int),tmn (b:=3) (by decide),Gg ?_⟩;refine⟨⟨by omega,by omega⟩,Gg ?_⟩;refine⟨vi b5,g1.one rfl,Gg ?_⟩;refine⟨((b5 % 3:Nat):Int),tmn (b:=3) (by decide),Gg ?_⟩;refine⟨⟨by omega,by omega⟩,Gg ?_⟩;refine⟨vi b6,g1.one rfl,Gg ?_⟩;refine⟨((b6 % 4:Nat):Int),tmn (b:=4) (by decide),Gg ?_⟩;refine⟨⟨by omega,by omega⟩,Gg ?_⟩;refine⟨vi b7,g1.one rfl,Gg ?_⟩;refine⟨((b7:Nat):Int),wrap_u64 ⟨by omega,by omega⟩,Gg ?_⟩;intro p4 w4 hn4;refine Gg ?_;refine Qd Qa (e:=ty32) rfl hn4.At rfl rfl rfl (by simp[Qg,Value.oneCell']) fun w5 g5 ho5 => ?_
 generalize hc:(⟨((1+10*b0:Nat):Int),((1+b1 % 20:Nat):Int),((1+b2 % 50:Nat):Int),(sp:Int),((b4 % 3:Nat):Int),((b5 % 3:Nat):Int)⟩:Cfg)=c;have g5:At w5 p4 32 (Qas c (Qd5 0) ((b6 % 4:Nat):Int) (b7:Nat)):=by rw[← hc];exact g5
 have e4:=hn4.block;have hx5:Ext w2 w5:=ho5.ext hn4.ext (by omega);have l2:=g2.lt;replace g2:=g2.ext hx5;replace hx2:=hx2.trans hx5;clear ho5 hn4 hx5 g1;have l4:=g5.lt;have n42:p4≠p2:=by omega
 have n4:w.heap.size≤p4∧w.heap.size≤p2:=by have:=hx2.size;omega
 clear hc
 refine Qh Qa (fun(k:Nat) w'=>k≤6∧Ext w w'∧At w' p2 32 (Qg ty32.zero)∧At w' p4 32 (Qas c (Qd5 k) ((b6 % 4:Nat):Int) (b7:Nat)))
  (fun k => [(2,.pointer (some ⟨p2,0,none⟩)),(4,.pointer (some ⟨p4,0,none⟩)),(40,.int .i64 (k:Nat))]) (fun k=>6-k) 0 ⟨by omega,hx2,g2,g5⟩ Rr ?_
 clear g2 g5 hx2;rintro k w6 ⟨hk,hx6,g2,g4⟩
 conv=>whnf
 constructor
 · intro hlt
   have hlt:k<6:=by
    have:(k:Int)<6:=by simpa using hlt
    omega
   refine Gg ?_;refine⟨⟨by omega,by omega⟩,Gg ?_⟩;refine Qd Qa (e:=ty3) (off:=6+k) rfl g4 (by simp[Xe,Qz,Qq2]) rfl (Nat.ble_eq_true_of_le (by rw[Q8i];show 6+k+1≤22;omega)) (by simp[Qg,Value.oneCell']) fun w7 g7 ho7 => ?_
   have g7:At w7 p4 32 (Qas c (Qd5 (k+1)) ((b6 % 4:Nat):Int) (b7:Nat)):=by rw[← Q5n _ _ _ hlt];exact g7
   refine Gg ?_;refine⟨_,wrap_succ (by omega),Gg ?_⟩
   exact⟨k+1,by omega,⟨by omega,ho7.ext hx6 n4.1,ho7.at_ g2 (fun e=>n42 e.symm),g7⟩,Rr⟩
 · intro hge
   have hge:k=6:=by
    have:¬ (k:Int)<6:=by simpa using hge
    omega
   subst hge;refine Gg ?_;refine⟨Qas c (Qd5 6) ((b6 % 4:Nat):Int) (b7:Nat),⟨rfl,g4.all⟩,Gg ?_⟩;refine Qd Qa (e:=ty32) rfl g2 rfl rfl rfl (by simp[Qg,Qas,Value.oneCell']) fun w8 g8 ho8 => ?_
   have g8:At w8 p2 32 (Qas c (Qd5 6) ((b6 % 4:Nat):Int) (b7:Nat)):=g8;refine Gg ?_;refine⟨Qas c (Qd5 6) ((b6 % 4:Nat):Int) (b7:Nat),⟨rfl,g8.all⟩,Gg ?_⟩
   exact⟨rfl,ho8.ext hx6 n4.2⟩
def Qd6 (q j:Nat):Bool:=decide (q/2 ^ j % 2=1)
def Q2h (q k:Nat):List Value := [.bool (decide (0<k)&&Qd6 q 0),.bool (decide (1<k)&&Qd6 q 1),.bool (decide (2<k)&&Qd6 q 2)]
theorem Q2k {q k:Nat} (hk:k<3):spl (Q2h q k) k [.bool (Qd6 q k)]=Q2h q (k+1):=by
 rcases k with _ | _ | _ | k
 · rfl
 · rfl
 · rfl
 · omega
theorem Xd4 {q k:Nat} (hk:k<64):(0:Int)≤(k:Nat)∧((q/2 ^ k:Nat):Int)=(q:Int).fdiv (2 ^ (min ((k:Nat):Int).toNat IntKind.i64.bits)):=by
 refine⟨by omega,?_⟩
 have:min ((k:Nat):Int).toNat IntKind.i64.bits=k:=by
  rw[Int.toNat_natCast];show min k 64=k
  omega
 have e:(2:Int) ^ k=((2 ^ k:Nat):Int):=by push_cast;rfl
 rw[this,e,Int.fdiv_eq_ediv_of_nonneg _ (Int.natCast_nonneg _)]
 exact Int.natCast_ediv _ _
theorem Xdt:∀ a<64,((a % 2:Nat):Int)=IntKind.i64.wrap ((BitVec.ofInt IntKind.i64.bits ((a:Nat):Int) &&& BitVec.ofInt IntKind.i64.bits 1).toNat:Nat):=by decide +kernel
theorem Q90 (x:Nat):decide (((x % 2:Nat):Int)=1)=decide (x % 2=1):=by
 rw[Bool.eq_iff_iff,decide_eq_true_iff,decide_eq_true_iff];omega
theorem Qzp (a b c:Bool) (ox oy:Operand):Qq1 Tryz.prog 189 ox oy (.agg #[.bool a,.bool b,.bool c]) (.agg #[.bool false,.bool false,.bool false]) (!a && !b && !c):=by
 have hu:Tryz.prog.underlying 189=some (.array 3 4):=by kernel_rfl
 have hb:Tryz.prog.underlying 4=some .bool:=by kernel_rfl
 have hc:Tryz.prog.cellsOf 4=1:=by kernel_rfl
 intro w;have h1:=run_eqGuard_agg (P:=Tryz.prog) w .eql 189 ox oy #[.bool a,.bool b,.bool c] #[.bool false,.bool false,.bool false] (by kernel_rfl);have h2:=run_eqGuard_agg (P:=Tryz.prog) w .neq 189 ox oy #[.bool a,.bool b,.bool c] #[.bool false,.bool false,.bool false] (by kernel_rfl);have h3:=run_eql_struct (P:=Tryz.prog) w 189 #[.bool a,.bool b,.bool c] #[.bool false,.bool false,.bool false];have h4:=run_neq_struct (P:=Tryz.prog) w 189 #[.bool a,.bool b,.bool c] #[.bool false,.bool false,.bool false]
 have h5:(Op.equalIn 10000 189 (.agg #[.bool a,.bool b,.bool c]) (.agg #[.bool false,.bool false,.bool false])).run Tryz.prog w = .ok (!a && !b && !c) w:=by
  obtain⟨i,hi⟩:∃ i,Tryz.prog.info? 4=some i:=by
   obtain⟨i,d,hi,_⟩:=Xd ty4_ok
   exact⟨i,hi⟩
  rw[run_equalIn_array w 9999 _ _ hu hi,hc]
  have hp:∀ (xs:Array Value) (k:Nat) (x:Bool),xs[k]? = some (.bool x)→(part 4 xs k).run Tryz.prog w = .ok (.bool x) w:=fun xs k x hx=>by
   have:(isAgg 4).run Tryz.prog w = .ok false w:=by
    unfold isAgg;simp only[Sem.run_bind,run_underlying hb,Result.andThen_ok]
    rfl
   simp[part,this,hx]
  have hr:List.range 3 = [0,1,2]:=rfl;rw[hr];have q:=fun(x:Bool)=>run_equalIn_bool' (P:=Tryz.prog) w 9998 4 x false hb
  simp only[Op.eqItems,Sem.run_bind,Nat.mul_one];rw[hp #[.bool a,.bool b,.bool c] 0 a rfl];simp only[Result.andThen_ok];rw[hp #[.bool false,.bool false,.bool false] 0 false rfl];simp only[Result.andThen_ok];rw[q a];simp only[Result.andThen_ok]
  cases a
  case true=>simp
  simp only[show (false == false)=true from rfl,Bool.not_true,Bool.false_eq_true,↓reduceIte,Sem.run_bind];rw[hp #[.bool false,.bool b,.bool c] 1 b rfl];simp only[Result.andThen_ok];rw[hp #[.bool false,.bool false,.bool false] 1 false rfl];simp only[Result.andThen_ok];rw[q b];simp only[Result.andThen_ok]
  cases b
  case true=>simp
  simp only[show (false == false)=true from rfl,Bool.not_true,Bool.false_eq_true,↓reduceIte,Sem.run_bind];rw[hp #[.bool false,.bool false,.bool c] 2 c rfl];simp only[Result.andThen_ok];rw[hp #[.bool false,.bool false,.bool false] 2 false rfl];simp only[Result.andThen_ok];rw[q c];simp only[Result.andThen_ok]
  cases c <;> simp
 rw[h5] at h3 h4;constructor
 · simp only[Sem.run_bind,h1,Result.andThen_ok,h3]
 · simp only[Sem.run_bind,h2,Result.andThen_ok,h4]
def Q55 (q k:Nat):List ByteArray:=((List.range k).filter (Qd6 q)).map (nb 116)
theorem Q58 (q k:Nat):Q55 q (k+1)=Q55 q k++if Qd6 q k=true then [nb 116 k] else []:=by
 unfold Q55;rw[List.range_succ,List.filter_append,List.map_append]
 congr 1
 by_cases h:Qd6 q k=true
 · simp[h]
 · simp[h]
theorem Xee (q:Nat):Qd6 q 0=Qd6 (q % 8) 0∧Qd6 q 1=Qd6 (q % 8) 1∧Qd6 q 2=Qd6 (q % 8) 2:=by
 unfold Qd6;have h0:q/2 ^ 0 % 2=q % 8/2 ^ 0 % 2:=by simp only[Nat.pow_zero,Nat.div_one];omega
 have h1:q/2 ^ 1 % 2=q % 8/2 ^ 1 % 2:=by simp only[Nat.pow_one];omega
 have h2:q/2 ^ 2 % 2=q % 8/2 ^ 2 % 2:=by simp only[show 2 ^ 2=4 from rfl];omega
 rw[h0,h1,h2]
 exact⟨rfl,rfl,rfl⟩
theorem Xd5 (q:Nat):Q55 q 3=Q55 (q % 8) 3:=by
 obtain⟨h0,h1,h2⟩:=Xee q;unfold Q55
 congr 1
 show List.filter (Qd6 q) [0,1,2]=List.filter (Qd6 (q % 8)) [0,1,2]
 simp only[List.filter,h0,h1,h2]
theorem Q56:∀ b<8,(⟨(Lib.join ((Q55 b 3).map (·.data.toList)) [44]).toArray⟩:ByteArray)=Xc9 b:=by decide +kernel
theorem Q57:∀ b<8,(Lib.join ((Q55 b 3).map (·.data.toList)) [44]).length≤100:=by decide +kernel
theorem Q59:∀ b<8,(Xc9 b).size≤100:=by decide +kernel
theorem Q2i:∀ b<8,(!Qd6 b 0 && !Qd6 b 1 && !Qd6 b 2)=true→Xc9 b=⟨#[]⟩:=by decide +kernel
theorem Q2j:∀ b<8,(!Qd6 b 0 && !Qd6 b 1 && !Qd6 b 2)=false→Q55 b 3 ≠ []:=by decide +kernel
theorem Q61 (x:ByteArray):x++(⟨#[]⟩:ByteArray)=x:=by
 apply ByteArray.ext
 simp
set_option maxHeartbeats 1000000 in
theorem Qqw (m v:Nat) (hm:m<3) (hv:v<256) (w:World) (hg:Gl w):Cal Tryz.prog 51 [.string (nb 109 m),.int .i64 (v:Nat)] w fun r w'=>r = .string (Qsi m (v/4 % 8))∧Ext w w':=by
 have hms:(nb 109 m).size=2:=rfl;unfold Qsi;generalize nb 109 m=mk at hms ⊢;have hq:v/4<64:=by omega
 refine Fi Tryz.func51 rfl _ rfl rfl (Hh ?_);intro p5 w1 hn1;refine Gg ?_;have g5:At w1 p5 189 (Q2h (v/4) 0):=hn1.At;have hx1:=hn1.ext;have n5:w.heap.size≤p5:=by rw[hn1.block];exact Nat.le_refl _
 clear hn1
 refine Qh Qa (fun(k:Nat) w'=>k≤3∧Ext w w'∧At w' p5 189 (Q2h (v/4) k))
  (fun k => [(0,.string mk),(1,.int .i64 (v:Nat)),(5,.pointer (some ⟨p5,0,none⟩)),(10,.int .i64 (k:Nat))]) (fun k=>3-k) 0 ⟨by omega,hx1,g5⟩ Rr ?_
 clear g5 hx1;rintro k w2 ⟨hk,hx2,g5⟩
 conv=>whnf
 constructor
 · intro hlt
   have hlt:k<3:=by
    have:(k:Int)<3:=by simpa using hlt
    omega
   refine Gg ?_;refine⟨((v/4:Nat):Int),tdn (b:=4) (by omega) (by decide),Gg ?_⟩;refine⟨((v/4/2 ^ k:Nat):Int),Xd4 (by omega),Gg ?_⟩;refine⟨((v/4/2 ^ k % 2:Nat):Int),Xdt _ (by have:=Nat.div_le_self (v/4) (2 ^ k);omega),Gg ?_⟩;refine⟨⟨by omega,by omega⟩,Gg ?_⟩;refine Qd Qa (e:=ty4) (off:=k) rfl g5 (by simp[Qz]) rfl (Nat.ble_eq_true_of_le (by show k+1≤3;omega)) (by simp[Qg,Value.oneCell']) fun w3 g3 ho3 => ?_
   have g3:At w3 p5 189 (Q2h (v/4) (k+1)):=by
    rw[← Q2k hlt];have e:(Value.bool (decide (((v/4/2 ^ k % 2:Nat):Int)=1)))=Value.bool (Qd6 (v/4) k):=by rw[Q90];rfl
    rw[← e]
    exact g3
   refine Gg ?_;refine⟨_,wrap_succ (by omega),Gg ?_⟩
   exact⟨k+1,by omega,⟨by omega,ho3.ext hx2 n5,g3⟩,Rr⟩
 · intro hge
   have hge:k=3:=by
    have:¬ (k:Int)<3:=by simpa using hge
    omega
   subst hge;have g5:At w2 p5 189 [.bool (Qd6 (v/4) 0),.bool (Qd6 (v/4) 1),.bool (Qd6 (v/4) 2)]:=g5;refine Gg ?_;refine⟨[.bool (Qd6 (v/4) 0),.bool (Qd6 (v/4) 1),.bool (Qd6 (v/4) 2)],⟨rfl,g5.all⟩,Gg ?_⟩;refine⟨_,Qzp _ _ _ _ _,Gg ?_⟩;obtain⟨c0,c1,c2⟩:=Xee (v/4);have h8:v/4 % 8<8:=by omega
   constructor
   · intro h
     have h:(!Qd6 (v/4) 0 && !Qd6 (v/4) 1 && !Qd6 (v/4) 2)=true:=h;rw[c0,c1,c2] at h;rw[Q2i _ h8 h,Q61];refine Gg ?_;refine⟨sz2 (by omega) (by decide),Gg ?_⟩
     exact⟨rfl,hx2⟩
   · intro h
     have h:(!Qd6 (v/4) 0 && !Qd6 (v/4) 1 && !Qd6 (v/4) 2)=false:=h;rw[c0,c1,c2] at h;have hne:=Q2j _ h8 h;refine Gg ?_;refine⟨[.bool (Qd6 (v/4) 0),.bool (Qd6 (v/4) 1),.bool (Qd6 (v/4) 2)],⟨rfl,g5.all⟩,Gg ?_⟩
     refine Qh Qa (fun(x:Nat×Option Addr×Nat×List ByteArray) w'=>x.1≤3∧x.2.2.2=Q55 (v/4) x.1∧Own Qav 1 9 w.heap.size w' x.2.1 x.2.2.1 x.2.2.2∧Ext w w')
      (fun | (k,B,d,U) => [(0,.string mk),(7,.slice B U.length d),(27,.agg #[.bool (Qd6 (v/4) 0),.bool (Qd6 (v/4) 1),.bool (Qd6 (v/4) 2)]),(28,.int .i64 (k:Nat))]) (fun x=>3-x.1) (0,none,0,[]) ⟨by simp,rfl,Own.nil,hx2⟩ Rr ?_
     clear g5 hx2;rintro ⟨k,B,d,U⟩ w3 ⟨hk,hU,hown,hx3⟩;simp only at hk hU hown
     have hUl:U.length≤k:=by
      rw[hU];unfold Q55;rw[List.length_map];have:=List.length_filter_le (Qd6 (v/4)) (List.range k);rw[List.length_range] at this
      exact this
     conv=>whnf
     constructor
     · intro hlt
       have hlt:k<3:=by
        have:(k:Int)<3:=by simpa using hlt
        omega
       have hsn:=Q58 (v/4) k;rw[← hU] at hsn;refine Gg ?_;refine⟨.bool (Qd6 (v/4) k),Qni Tryz.underlying189 Tryz.isAgg4 Tryz.sizeOf4 hlt (by rcases k with _ | _ | _ | k <;> first | rfl | omega),Gg ?_⟩;constructor
       · intro hb
         rw[if_pos hb] at hsn;refine Gg ?_;refine(Qaj 116 k (by omega) w3 (hg.ext hx3)).mono ?_;rintro _ w4 ⟨rfl,hx4⟩;refine Gg ?_;intro b5 w5 hn5;refine Gg ?_;have hx35:=hx4.trans hn5.ext;refine Qs Qb6 (l:=U) (news := [nb 116 k]) rfl (hown.ext hx35) rfl (Qb6.new1 (x:=nb 116 k) hn5) (by simp;omega) (hx3.trans hx35).size fun A6 c6 w6 hown6 hg6 hA6 => ?_
         have hx6:=Qr (hx3.trans hx35) hg6 (Xy (hown.ext hx35));generalize U ++ [nb 116 k]=U2 at hown6 hsn ⊢;refine Gg ?_;refine⟨_,wrap_succ (by omega),Gg ?_⟩
         exact⟨(k+1,A6,c6,U2),by simp only;omega,⟨by simp only;omega,hsn.symm,hown6,hx6⟩,Rr⟩
       · intro hb
         have hb:¬ Qd6 (v/4) k=true:=by rw[hb];decide
         rw[if_neg hb,List.append_nil] at hsn;refine Gg ?_;refine⟨_,wrap_succ (by omega),Gg ?_⟩
         exact⟨(k+1,B,d,U),by simp only;omega,⟨by simp only;omega,hsn.symm,hown,hx3⟩,Rr⟩
     · intro hge
       have hge:k=3:=by
        have:¬ (k:Int)<3:=by simpa using hge
        omega
       subst hge;rw[Xd5] at hU;have hj:=Q56 _ h8;have hjs:=Q57 _ h8;rw[← hU] at hj hjs hne;refine Gg ?_;refine⟨sz2 (by omega) (by decide),Gg ?_⟩
       obtain⟨g,hB⟩:∃ g,B=some ⟨g,0,none⟩:=by
        rcases hown.2 with⟨h0,h1⟩ | ⟨g,cp,cur,h0,_⟩
        · exact absurd (List.eq_nil_of_length_eq_zero h1) hne
        · injection h0 with h0;exact⟨g,h0⟩
       subst hB;have hs:=hown.sl Xi
       have hcells:∀ (j:Nat) x,U[j]? = some x→w3.cell? ⟨g,0+j,none⟩=some (.string x):=fun j x hj=>by
        obtain⟨a,ha,hc⟩:=hs j x hj;injection ha with ha;subst ha;have:=Qv hc;rw[Qz] at this;rw[Nat.zero_add]
        simpa using this
       have hts:=Q59 _ h8;have hls:U.length≤d:=hown.le;refine(Qa3 Q4r (Tryz.strings_Join g 0 d U ⟨#[44]⟩ w3 hcells (hown.block rfl).2 (by omega) hls ?_) (R:=fun r w'=>r = .string (Xc9 (v/4 % 8))∧Ext w3 w') ?_).mono ?_
       · show (Lib.join (U.map (·.data.toList)) [44]).length≤_
         omega
       · intro w' hw'
         exact⟨by rw[← hj],hw'⟩
       · rintro _ w5 ⟨rfl,hx5⟩;refine Gg ?_
         refine⟨sz2 (by rw[ByteArray.size_append];have:(⟨#[59]⟩:ByteArray).size=1:=rfl;omega) (by omega),Gg ?_⟩
         exact⟨rfl,hx3.trans hx5⟩
def Qc8 (kd:Int) (src p i m t:ByteArray) (num a:Int) (v:Nat):Ev :=
 if kd=7∨kd=9 then⟨src,num,a,kd,p,⟨#[]⟩,0,m⟩
 else if kd=11 then⟨src,num,a,kd,⟨#[]⟩,i,(v:Nat),t⟩
 else if kd=12 then⟨src,num,a,kd,⟨#[]⟩,i,(v % 3:Nat),⟨#[]⟩⟩
 else if kd=13 then⟨src,num,a,kd,⟨#[]⟩,i,0,⟨#[]⟩⟩
 else if kd=4 then⟨src,num,a,kd,p,i,(1+v % 5:Nat),⟨#[]⟩⟩
 else⟨src,num,a,kd,p,i,0,⟨#[]⟩⟩
theorem Q8r (k b1 b2 v:Nat) (num tick:Int):Qts k b1 b2 v num tick=Qc8 (kT.getD (k % 16) 0) (nb 115 (k/16 % 2)) (nb 112 (b1 % 4)) (nb 105 (b2 % 6)) (nb 109 (v % 3)) (Qsi (v % 3) (v/4 % 8)) num (max (tick-5*(k/32:Nat)) 0) v:=rfl
theorem Xdx {w:World} (h:Q12 w) {j:Nat} (hj:j<13):w.cell? ((⟨0,0,none⟩:Addr).add ((((j:Nat):Int)).toNat*1))=some (vi (kT.getD j 0)):=by
 rw[Int.toNat_natCast,Nat.mul_one];refine h j _ ?_;have hl:j<kT.length:=hj;rw[List.getElem?_map,List.getElem?_eq_getElem hl]
 simp[List.getD,hl]
set_option maxHeartbeats 4000000 in
theorem Q6f (k b1 b2 v d:Nat) (num tick:Int) (hk:k % 16<13) (hk2:k<256) (hb1:b1<256) (hb2:b2<256) (hv:v<256) (ht:0≤tick∧tick≤1000000) (w:World) (hg:Gl w) (hkn:Q12 w) :
 Cal Tryz.prog 24 [.agg #[vi k,vi b1,vi b2,vi v,vi d],.int .i64 num,.int .i64 tick] w fun r w'=>r=evV (Qts k b1 b2 v num tick)∧Ext w w':=by
 have hgs:=hg.size;rw[Q8r];refine Fi Tryz.func24 rfl _ rfl rfl (Hh ?_);intro p3 w1 hn1;refine Gg ?_;have g3:At w1 p3 80 [vi k,vi b1,vi b2,vi v,vi d]:=hn1.At;have e3:=hn1.block;have s1:=hn1.size;intro p6 w2 hn2;have g6:=hn2.At;have e6:=hn2.block;have s2:=hn2.size;replace g3:=g3.ext hn2.ext;have hx:=hn1.ext.trans hn2.ext;clear hn1 hn2;refine Gg ?_;refine Dr .same [0,1,2,3,4,5] [] (Hh ?_);have hxd:Ext w2 w2.drew:=(Ext.refl w2).drew;replace g3:=g3.ext hxd;replace g6:=g6.ext hxd;replace hx:=hx.trans hxd;have s3:w2.drew.heap.size=w2.heap.size:=rfl;generalize w2.drew=w3 at g3 g6 hx s3 ⊢;clear hxd;refine⟨⟨by decide,by decide⟩,Hh ?_⟩;refine⟨vi k,g3.one rfl,Hh ?_⟩;refine⟨⟨by decide,by decide⟩,Hh ?_⟩;refine⟨vi v,g3.one rfl,Gg ?_⟩;have hg3:=hg.ext hx;have hkn3:=hkn.ext hx
 refine Qv6 (ι:=Nat) (fun p9 => [(3,.pointer (some ⟨p3,0,none⟩)),(6,.pointer (some ⟨p6,0,none⟩)),(7,.int .i64 (k:Nat)),(8,.int .i64 (v:Nat)),(9,.pointer (some ⟨p9,0,none⟩))])
  (fun p9 w'=>Ext w3 w'∧w3.heap.size≤p9∧At w' p9 38 (evC ⟨nb 115 (k/16 % 2),num,max (tick-5*((k/32:Nat):Int)) 0,kT.getD (k % 16) 0,⟨#[]⟩,⟨#[]⟩,0,⟨#[]⟩⟩)) ?_ ?_
 · refine Qh5 (.mods (fun q=>w3.heap.size≤q)) (Pl.seq [0,1,2,4,5,6,7,8,9,10,11,12,13,14] (Pl.two 3 (Pl.seq [15,16,17] Pl.done) 16 (Pl.seq [3,15,17] Pl.done))) (by intro h;cases h) Qa mixed (by kernel_rfl) (Hh ?_)
   have hxd:Ext w3 w3.drew:=(Ext.refl w3).drew;have sd:w3.drew.heap.size=w3.heap.size:=rfl;have hgd:=hg3.ext hxd;have hkd:=hkn3.ext hxd;generalize w3.drew=w4 at hxd sd hgd hkd ⊢;refine⟨((k/16:Nat):Int),tdn (b:=16) (by omega) (by decide),Hh ?_⟩;refine⟨((k/16 % 2:Nat):Int),tmn (b:=2) (by decide),Hh ?_⟩;refine⟨((k/32:Nat):Int),tdn (b:=32) (by omega) (by decide),Hh ?_⟩;refine⟨5*((k/32:Nat):Int),wrap_i64 ⟨by omega,by omega⟩,Hh ?_⟩;refine⟨tick-5*((k/32:Nat):Int),wrap_i64 ⟨by omega,by omega⟩,Hh ?_⟩;refine⟨((k % 16:Nat):Int),tmn (b:=16) (by decide),Hh ?_⟩;refine⟨⟨by omega,by omega⟩,Hh ?_⟩;refine⟨vi (kT.getD (k % 16) 0),⟨Xdx hkd hk,by rw[add_block];show ¬ w3.heap.size≤0;omega⟩,Hh ?_⟩;generalize kT.getD (k % 16) 0=kd;generalize max (tick-5*((k/32:Nat):Int)) 0=a;refine⟨?_,?_⟩
   · refine(Qaj 115 (k/16 % 2) (by omega) w4 hgd).mono ?_
     rintro _ w5 ⟨rfl,hx5⟩;refine⟨Mod.of_ext hx5,Hh ?_⟩;intro p9 w6 hn6;have e9:=hn6.block;have s5:=hx5.size;refine⟨Mod.of_ext hn6.ext,Hh ?_⟩;refine Qd Qa (e:=ty38) rfl hn6.At rfl rfl rfl (by simp[Qg,Value.oneCell']) fun w7 g7 ho7 => ?_
     refine⟨Qi ho7 (by show w3.heap.size≤p9;omega),Hh ?_⟩
     exact⟨p9,⟨ho7.ext ((hxd.trans hx5).trans hn6.ext) (by omega),by omega,g7⟩,Rr⟩
   · intro p9 w6 hn6
     have e9:=hn6.block;refine⟨Mod.of_ext hn6.ext,Hh ?_⟩;refine(Qaj 115 (k/16 % 2) (by omega) w6 (hgd.ext hn6.ext)).mono ?_;rintro _ w5 ⟨rfl,hx5⟩;refine⟨Mod.of_ext hx5,Hh ?_⟩;refine Qd Qa (e:=ty38) rfl (hn6.At.ext hx5) rfl rfl rfl (by simp[Qg,Value.oneCell']) fun w7 g7 ho7 => ?_
     refine⟨Qi ho7 (by show w3.heap.size≤p9;omega),Hh ?_⟩
     exact⟨p9,⟨ho7.ext ((hxd.trans hn6.ext).trans hx5) (by omega),by omega,g7⟩,Rr⟩
 rintro p9 w4 ⟨hx4,n9,g9⟩;clear hkn3;replace g3:=g3.ext hx4;have hg4:=hg3.ext hx4;generalize kT.getD (k % 16) 0=kd at g9 ⊢;generalize max (tick-5*((k/32:Nat):Int)) 0=a at g9 ⊢;generalize nb 115 (k/16 % 2)=src at g9 ⊢;refine Gg ?_;refine Dr .ext [0,1,2,4,5,6,8,9,3,7] [10,11,12,13] (Hh ?_);have hxd:Ext w4 w4.drew:=(Ext.refl w4).drew;replace g3:=g3.ext hxd;replace g9:=g9.ext hxd;replace hx4:=hx4.trans hxd;replace hg4:=hg4.ext hxd;generalize w4.drew=w5 at g3 g9 hx4 hg4 ⊢;clear hxd;refine⟨⟨by decide,by decide⟩,Hh ?_⟩;refine⟨vi b1,g3.one rfl,Hh ?_⟩;refine⟨((b1 % 4:Nat):Int),tmn (b:=4) (by decide),Hh ?_⟩;refine⟨⟨by decide,by decide⟩,Hh ?_⟩;refine⟨vi b2,g3.one rfl,Hh ?_⟩;refine⟨((b2 % 6:Nat):Int),tmn (b:=6) (by decide),Hh ?_⟩;refine⟨((v % 3:Nat):Int),tmn (b:=3) (by decide),Hh ?_⟩;refine(Qaj 112 (b1 % 4) (by omega) w5 hg4).mono ?_;rintro _ w6 ⟨rfl,hx6⟩;refine⟨hx6,Hh ?_⟩;refine(Qaj 105 (b2 % 6) (by omega) w6 (hg4.ext hx6)).mono ?_;rintro _ w7 ⟨rfl,hx7⟩;refine⟨hx7,Hh ?_⟩;refine(Qaj 109 (v % 3) (by omega) w7 ((hg4.ext hx6).ext hx7)).mono ?_;rintro _ w8 ⟨rfl,hx8⟩;replace hx4:=((hx4.trans hx6).trans hx7).trans hx8;replace g9:=((g9.ext hx6).ext hx7).ext hx8;have hg8:=((hg4.ext hx6).ext hx7).ext hx8;clear hx6 hx7 hx8 hg4 g3;have hlist:∀ w',Gl w'→Cal Tryz.prog 51 [.string (nb 109 (v % 3)),.int .i64 (v:Nat)] w' fun r w''=>r = .string (Qsi (v % 3) (v/4 % 8))∧Ext w' w'':=fun w' h=>Qqw (v % 3) v (by omega) hv w' h
 generalize nb 112 (b1 % 4)=p;generalize nb 105 (b2 % 6)=i;generalize nb 109 (v % 3)=m at hlist ⊢;generalize Qsi (v % 3) (v/4 % 8)=t at hlist ⊢;refine Gg ?_;refine⟨vi kd,g9.one rfl,Hh ?_⟩;have hsx:=hx.size;refine Xh Qa (ι:=Bool) (fun q => [(6,.pointer (some ⟨p6,0,none⟩)),(8,.int .i64 (v:Nat)),(9,.pointer (some ⟨p9,0,none⟩)),(10,.string p),(11,.string i),(12,.string m),(45,.int .i64 kd),(50,.bool q)]) (fun q w'=>q=decide (kd=7∨kd=9)∧w'=w8) ?_ ?_
 · (conv=>whnf)
   refine⟨fun h => ?_,fun h => ?_⟩
   · have h:kd=7:=by simpa using h
     conv=>whnf
     exact⟨_,⟨by simp[h],rfl⟩,⟨rfl,rfl,rfl,rfl,rfl,rfl,rfl,rfl,trivial⟩⟩
   have h7:¬ kd=7:=by simpa using h
   conv=>whnf
   exact⟨_,⟨by simp[h7],rfl⟩,⟨rfl,rfl,rfl,rfl,rfl,rfl,rfl,rfl,trivial⟩⟩
 rintro q w9 ⟨hq,hw⟩;replace hw:=hw.symm;subst hw hq
 conv=>whnf
 refine⟨fun h => ?_,fun h => ?_⟩
 · have h:kd=7∨kd=9:=by simpa using h
   have hE:Qc8 kd src p i m t num a v=⟨src,num,a,kd,p,⟨#[]⟩,0,m⟩:=by unfold Qc8;rw[if_pos h]
   refine Gg ?_;refine Qd Qa (e:=ty9) (off:=4) rfl g9 rfl rfl rfl (by simp[Qg,Value.oneCell']) fun wa ga hoa => (Gg ?_)
   refine Qd Qa (e:=ty9) (off:=7) rfl ga rfl rfl rfl (by simp[Qg,Value.oneCell']) fun wb gb hob => (Gg ?_)
   have gz:At wb p9 38 (evC (Qc8 kd src p i m t num a v)):=by rw[hE];exact gb
   have hx9:=hob.ext (hoa.ext hx4 n9) n9;clear hE;generalize Qc8 kd src p i m t num a v=e at gz ⊢;refine⟨evC e,⟨rfl,gz.all⟩,Gg ?_⟩;refine Qd Qa (e:=ty38) rfl (g6.ext hx9) rfl rfl rfl (Qbo e) fun w10 g10 ho10 => ?_
   have g10:At w10 p6 38 (evC e):=g10;refine Gg ?_;refine⟨evC e,⟨rfl,g10.all⟩,Gg ?_⟩
   exact⟨rfl,ho10.ext (hx.trans hx9) (by omega)⟩
 have h79:¬ (kd=7∨kd=9):=by simpa using h
 conv=>whnf
 refine⟨fun h => ?_,fun h => ?_⟩
 · have h:kd=11:=by simpa using h
   have hE:Qc8 kd src p i m t num a v=⟨src,num,a,kd,⟨#[]⟩,i,(v:Nat),t⟩:=by unfold Qc8;rw[if_neg h79,if_pos h]
   refine Gg ?_;refine(hlist w8 hg8).mono ?_;rintro _ wl ⟨rfl,hxl⟩;refine Gg ?_;refine Qd Qa (e:=ty9) (off:=5) rfl (g9.ext hxl) rfl rfl rfl (by simp[Qg,Value.oneCell']) fun wa ga hoa => (Gg ?_)
   refine Qd Qa (e:=ty3) (off:=6) rfl ga rfl rfl rfl (by simp[Qg,Value.oneCell']) fun wb gb hob => (Gg ?_)
   refine Qd Qa (e:=ty9) (off:=7) rfl gb rfl rfl rfl (by simp[Qg,Value.oneCell']) fun wc gc hoc => (Gg ?_)
   have gz:At wc p9 38 (evC (Qc8 kd src p i m t num a v)):=by rw[hE];exact gc
   have hx9:=hoc.ext (hob.ext (hoa.ext (hx4.trans hxl) n9) n9) n9;clear hE;generalize Qc8 kd src p i m t num a v=e at gz ⊢;refine⟨evC e,⟨rfl,gz.all⟩,Gg ?_⟩;refine Qd Qa (e:=ty38) rfl (g6.ext hx9) rfl rfl rfl (Qbo e) fun w10 g10 ho10 => ?_
   have g10:At w10 p6 38 (evC e):=g10;refine Gg ?_;refine⟨evC e,⟨rfl,g10.all⟩,Gg ?_⟩
   exact⟨rfl,ho10.ext (hx.trans hx9) (by omega)⟩
 have h11:¬ kd=11:=by simpa using h
 conv=>whnf
 refine⟨fun h => ?_,fun h => ?_⟩
 · have h:kd=12:=by simpa using h
   have hE:Qc8 kd src p i m t num a v=⟨src,num,a,kd,⟨#[]⟩,i,(v % 3:Nat),⟨#[]⟩⟩:=by unfold Qc8;rw[if_neg h79,if_neg h11,if_pos h]
   refine Gg ?_;refine⟨((v % 3:Nat):Int),tmn (b:=3) (by decide),Gg ?_⟩;refine Qd Qa (e:=ty9) (off:=5) rfl g9 rfl rfl rfl (by simp[Qg,Value.oneCell']) fun wa ga hoa => (Gg ?_)
   refine Qd Qa (e:=ty3) (off:=6) rfl ga rfl rfl rfl (by simp[Qg,Value.oneCell']) fun wb gb hob => (Gg ?_)
   have gz:At wb p9 38 (evC (Qc8 kd src p i m t num a v)):=by rw[hE];exact gb
   have hx9:=hob.ext (hoa.ext hx4 n9) n9;clear hE;generalize Qc8 kd src p i m t num a v=e at gz ⊢;refine⟨evC e,⟨rfl,gz.all⟩,Gg ?_⟩;refine Qd Qa (e:=ty38) rfl (g6.ext hx9) rfl rfl rfl (Qbo e) fun w10 g10 ho10 => ?_
   have g10:At w10 p6 38 (evC e):=g10;refine Gg ?_;refine⟨evC e,⟨rfl,g10.all⟩,Gg ?_⟩
   exact⟨rfl,ho10.ext (hx.trans hx9) (by omega)⟩
 have h12:¬ kd=12:=by simpa using h
 conv=>whnf
 refine⟨fun h => ?_,fun h => ?_⟩
 · have h:kd=13:=by simpa using h
   have hE:Qc8 kd src p i m t num a v=⟨src,num,a,kd,⟨#[]⟩,i,0,⟨#[]⟩⟩:=by unfold Qc8;rw[if_neg h79,if_neg h11,if_neg h12,if_pos h]
   refine Gg ?_;refine Qd Qa (e:=ty9) (off:=5) rfl g9 rfl rfl rfl (by simp[Qg,Value.oneCell']) fun wa ga hoa => (Gg ?_)
   have gz:At wa p9 38 (evC (Qc8 kd src p i m t num a v)):=by rw[hE];exact ga
   have hx9:=hoa.ext hx4 n9;clear hE;generalize Qc8 kd src p i m t num a v=e at gz ⊢;refine⟨evC e,⟨rfl,gz.all⟩,Gg ?_⟩;refine Qd Qa (e:=ty38) rfl (g6.ext hx9) rfl rfl rfl (Qbo e) fun w10 g10 ho10 => ?_
   have g10:At w10 p6 38 (evC e):=g10;refine Gg ?_;refine⟨evC e,⟨rfl,g10.all⟩,Gg ?_⟩
   exact⟨rfl,ho10.ext (hx.trans hx9) (by omega)⟩
 have h13:¬ kd=13:=by simpa using h
 conv=>whnf
 refine⟨fun h => ?_,fun h => ?_⟩
 · have h:kd=4:=by simpa using h
   have hE:Qc8 kd src p i m t num a v=⟨src,num,a,kd,p,i,(1+v % 5:Nat),⟨#[]⟩⟩:=by unfold Qc8;rw[if_neg h79,if_neg h11,if_neg h12,if_neg h13,if_pos h]
   refine Gg ?_;refine⟨((v % 5:Nat):Int),tmn (b:=5) (by decide),Gg ?_⟩;refine⟨((1+v % 5:Nat):Int),by rw[← wrap_i64 ⟨by omega,by omega⟩];push_cast;rfl,Gg ?_⟩;refine Qd Qa (e:=ty9) (off:=4) rfl g9 rfl rfl rfl (by simp[Qg,Value.oneCell']) fun wa ga hoa => (Gg ?_)
   refine Qd Qa (e:=ty9) (off:=5) rfl ga rfl rfl rfl (by simp[Qg,Value.oneCell']) fun wb gb hob => (Gg ?_)
   refine Qd Qa (e:=ty3) (off:=6) rfl gb rfl rfl rfl (by simp[Qg,Value.oneCell']) fun wc gc hoc => (Gg ?_)
   have gz:At wc p9 38 (evC (Qc8 kd src p i m t num a v)):=by rw[hE];exact gc
   have hx9:=hoc.ext (hob.ext (hoa.ext hx4 n9) n9) n9;clear hE;generalize Qc8 kd src p i m t num a v=e at gz ⊢;refine⟨evC e,⟨rfl,gz.all⟩,Gg ?_⟩;refine Qd Qa (e:=ty38) rfl (g6.ext hx9) rfl rfl rfl (Qbo e) fun w10 g10 ho10 => ?_
   have g10:At w10 p6 38 (evC e):=g10;refine Gg ?_;refine⟨evC e,⟨rfl,g10.all⟩,Gg ?_⟩
   exact⟨rfl,ho10.ext (hx.trans hx9) (by omega)⟩
 have h4:¬ kd=4:=by simpa using h
 have hE:Qc8 kd src p i m t num a v=⟨src,num,a,kd,p,i,0,⟨#[]⟩⟩:=by unfold Qc8;rw[if_neg h79,if_neg h11,if_neg h12,if_neg h13,if_neg h4]
 refine Gg ?_;refine Qd Qa (e:=ty9) (off:=4) rfl g9 rfl rfl rfl (by simp[Qg,Value.oneCell']) fun wa ga hoa => (Gg ?_)
 refine Qd Qa (e:=ty9) (off:=5) rfl ga rfl rfl rfl (by simp[Qg,Value.oneCell']) fun wb gb hob => (Gg ?_)
 have gz:At wb p9 38 (evC (Qc8 kd src p i m t num a v)):=by rw[hE];exact gb
 have hx9:=hob.ext (hoa.ext hx4 n9) n9;clear hE;generalize Qc8 kd src p i m t num a v=e at gz ⊢;refine⟨evC e,⟨rfl,gz.all⟩,Gg ?_⟩;refine Qd Qa (e:=ty38) rfl (g6.ext hx9) rfl rfl rfl (Qbo e) fun w10 g10 ho10 => ?_
 have g10:At w10 p6 38 (evC e):=g10;refine Gg ?_;refine⟨evC e,⟨rfl,g10.all⟩,Gg ?_⟩
 exact⟨rfl,ho10.ext (hx.trans hx9) (by omega)⟩
def taC (c:Cfg) (a:Nat→Int) (every seed:Int) (A:Option Addr) (n cap:Nat) (t:Int):List Value:=Qas c a every seed ++ [.slice A n cap,vi t]
theorem Q9d:Qne Tryz.prog 46 52 Q1e 13 144:=⟨by kernel_rfl,⟨_,ty52_ok,rfl,rfl⟩,by kernel_rfl,by decide,by decide,Qyg,Qyh⟩
theorem Q9n:Tryz.prog.underlying 79=some (.map 9 3):=by kernel_rfl
structure PaH (w0:World) (n0 p1 p2 p6:Nat) (V1 V2 V6:List Value) (B:Option Addr) (d:Nat) (S:List Stp) (w:World):Prop where
 ext:Ext w0 w
 a1:At w p1 22 V1
 a2:At w p2 48 V2
 a6:At w p6 48 V6
 own:Own Q1e 13 52 n0 w B d S
section
variable {w0:World} {n0 p1 p2 p6:Nat} {V1 V2 V6:List Value} {B:Option Addr} {d:Nat} {S:List Stp} {w w':World}
theorem PaH.ex (h:PaH w0 n0 p1 p2 p6 V1 V2 V6 B d S w) (hx:Ext w w'):PaH w0 n0 p1 p2 p6 V1 V2 V6 B d S w':=⟨h.ext.trans hx,h.a1.ext hx,h.a2.ext hx,h.a6.ext hx,h.own.ext hx⟩
theorem PaH.only (h:PaH w0 n0 p1 p2 p6 V1 V2 V6 B d S w) {b:Nat} (ho:Only w w' b) (h0:w0.heap.size≤b) (h1:p1≠b) (h2:p2≠b) (h6:p6≠b) (hB:∀ a,B=some a→a.block≠b):PaH w0 n0 p1 p2 p6 V1 V2 V6 B d S w' :=
 ⟨ho.ext h.ext h0,ho.at_ h.a1 h1,ho.at_ h.a2 h2,ho.at_ h.a6 h6,h.own.keep fun a ha=>ho.block _ (hB a ha)⟩
end
theorem Qkp {w w':World} {b t n0:Nat} {l:List Value} {row:Option Nat} (h:At w b t l) (hg:w.grownBy w' row) (hr:row≠some b):At w' b t l:=(hg.block b h.lt fun e=>hr e.symm).trans h
def ev0:Ev:=⟨⟨#[]⟩,0,0,0,⟨#[]⟩,⟨#[]⟩,0,⟨#[]⟩⟩
theorem Qxq {w:World} {bm:Nat} {L:List (ByteArray×Int)} (hm:MapAt w bm Value.string (Xm vi L)) (s:ByteArray):RdS Tryz.prog .same w (Instr.lookup 79 (.map (some bm)) (.string s) false) (.int .i64 (Qkq L s)):=by
 have hl:=X7 Q9n (Qo Xc) (e:=ty3) ty3_ok (cl := .same) Qm hm s;rw[show ty3.zero=vi 0 from rfl,Xq] at hl
 exact hl
set_option maxHeartbeats 8000000 in
theorem Qn7 (bs:List Nat) (A:Option Addr) (cp:Nat) (w:World) (hg:Gl w) (hkn:Q12 w) (hs:Sl u8C 1 w A bs) (hb:∀ x∈bs,x<256) (hl:bs.length≤300) :
 Cal Tryz.prog 8 [.slice A bs.length cp] w fun r w'=>∃ c every seed B d S L t,r = .agg (taC c (Qd5 6) every seed B S.length d t).toArray∧(Qt3 c=true∧(0≤every∧every≤3)∧(0≤seed∧seed≤255))∧Qm0 S L t∧5*S.length≤bs.length∧Sl Q1e 13 w' B S∧Ext w w':=by
 have hgs:=hg.size
 have hget:∀ i,bs.getD i 0<256:=fun i=>by
  by_cases h:i<bs.length
  · rw[show bs.getD i 0=bs[i] by simp[List.getD,h]]
    exact hb _ (List.getElem_mem h)
  · rw[show bs.getD i 0=0 by simp[List.getD,Nat.not_lt.1 h]]
    decide
 refine Fi Tryz.func8 rfl _ rfl rfl (Hh ?_);intro p1 w1 hn1;refine Gg ?_;have g1:At w1 p1 22 [.slice A bs.length cp]:=hn1.At;have e1:=hn1.block;have s1:=hn1.size;intro p2 w2 hn2;have g2:At w2 p2 48 (Qg ty48.zero):=hn2.At;have e2:=hn2.block;have s2:=hn2.size;replace g1:=g1.ext hn2.ext;have hx:=hn1.ext.trans hn2.ext;clear hn1 hn2;refine Gg ?_;intro p4 w3 hn3;have g4:At w3 p4 77 (Qlm 8 (fun i=>bs.getD i 0) 0):=hn3.At;have e4:=hn3.block;have s3:=hn3.size;replace g1:=g1.ext hn3.ext;replace g2:=g2.ext hn3.ext;replace hx:=hx.trans hn3.ext;clear hn3;refine Gg ?_
 refine Qh Qa (fun(k:Nat) w'=>k≤8∧Ext w w'∧w3.heap.size≤w'.heap.size∧At w' p1 22 [.slice A bs.length cp]∧At w' p2 48 (Qg ty48.zero)∧At w' p4 77 (Qlm 8 (fun i=>bs.getD i 0) k))
  (fun k => [(1,.pointer (some ⟨p1,0,none⟩)),(2,.pointer (some ⟨p2,0,none⟩)),(3,.func (.func 21) #[] #[.pointer (some ⟨p1,0,none⟩)]),(4,.pointer (some ⟨p4,0,none⟩)),(16,.int .i64 (k:Nat))]) (fun k=>8-k) 0 ⟨by omega,hx,Nat.le_refl _,g1,g2,g4⟩ Rr ?_
 clear hx g1 g2 g4;rintro k w4 ⟨hk,hx,hsz,g1,g2,g4⟩
 conv=>whnf
 constructor
 · intro hlt
   have hlt:k<8:=by
    have:(k:Int)<8:=by simpa using hlt
    omega
   refine Gg ?_;refine(Qym p1 bs A cp w4 g1 (hs.ext hx) hb k).mono ?_;rintro _ w5 ⟨rfl,hw⟩;replace hw:=hw.symm;subst hw;refine Gg ?_;refine⟨⟨by omega,by omega⟩,Gg ?_⟩;refine Qoj (f:=fun i=>bs.getD i 0) hlt g4 rfl fun w6 g6 ho6 => (Gg ?_)
   refine⟨_,wrap_succ (by omega),Gg ?_⟩
   exact⟨k+1,by omega,⟨by omega,ho6.ext hx (by omega),by rw[ho6.size];exact hsz,ho6.at_ g1 (by omega),ho6.at_ g2 (by omega),g6⟩,Rr⟩
 intro hge
 have hge:k=8:=by
  have:¬ (k:Int)<8:=by simpa using hge
  omega
 subst hge;have g4:At w4 p4 77 [vi (bs.getD 0 0:Nat),vi (bs.getD 1 0:Nat),vi (bs.getD 2 0:Nat),vi (bs.getD 3 0:Nat),vi (bs.getD 4 0:Nat),vi (bs.getD 5 0:Nat),vi (bs.getD 6 0:Nat),vi (bs.getD 7 0:Nat)]:=g4;refine Gg ?_;refine⟨[vi (bs.getD 0 0:Nat),vi (bs.getD 1 0:Nat),vi (bs.getD 2 0:Nat),vi (bs.getD 3 0:Nat),vi (bs.getD 4 0:Nat),vi (bs.getD 5 0:Nat),vi (bs.getD 6 0:Nat),vi (bs.getD 7 0:Nat)],⟨rfl,g4.all⟩,Gg ?_⟩;refine(Qqn (bs.getD 0 0) (bs.getD 1 0) (bs.getD 2 0) (bs.getD 3 0) (bs.getD 4 0) (bs.getD 5 0) (bs.getD 6 0) (bs.getD 7 0) (hget 0) (hget 1) (hget 2) (hget 3) (hget 4) (hget 5) (hget 6) (hget 7) w4).mono ?_;rintro _ w5 ⟨rfl,hx5⟩
 have hcf:Qt3 (Q96 (bs.getD 0 0:Nat) (bs.getD 1 0:Nat) (bs.getD 2 0:Nat) (bs.getD 3 0:Nat) (bs.getD 4 0:Nat) (bs.getD 5 0:Nat))=true:=by
  have q0:=hget 0;have q1:=hget 1;have q2:=hget 2;have q3:=hget 3;have q4:=hget 4;have q5:=hget 5
  exact Q64 ⟨by omega,by omega⟩ ⟨by omega,by omega⟩ ⟨by omega,by omega⟩ ⟨by omega,by omega⟩ ⟨by omega,by omega⟩ ⟨by omega,by omega⟩
 generalize Q96 (bs.getD 0 0:Nat) (bs.getD 1 0:Nat) (bs.getD 2 0:Nat) (bs.getD 3 0:Nat) (bs.getD 4 0:Nat) (bs.getD 5 0:Nat)=c at hcf ⊢;have hev:0≤((bs.getD 6 0 % 4:Nat):Int)∧((bs.getD 6 0 % 4:Nat):Int)≤3:=by omega
 have hsd:0≤((bs.getD 7 0:Nat):Int)∧((bs.getD 7 0:Nat):Int)≤255:=by have:=hget 7;omega
 generalize ((bs.getD 6 0 % 4:Nat):Int)=every at hev ⊢;generalize ((bs.getD 7 0:Nat):Int)=seed at hsd ⊢;replace g1:=g1.ext hx5;replace g2:=g2.ext hx5;replace hx:=hx.trans hx5;have z5:=hx5.size;clear hx5 g4;refine Gg ?_;intro p6 w6 hn6;refine Gg ?_;refine Qd Qa (e:=ty48) rfl hn6.At rfl rfl rfl (by simp[Qg,Qas,Value.oneCell']) fun w7 g6 ho7 => ?_
 have g6:At w7 p6 48 (taC c (Qd5 6) every seed none 0 0 1000):=g6;have e6:=hn6.block;have hx57:Ext w5 w7:=ho7.ext hn6.ext (by omega);have z7:=hx57.size;replace g1:=g1.ext hx57;replace g2:=g2.ext hx57;replace hx:=hx.trans hx57;clear ho7 hn6 hx57;refine Gg ?_;intro bm w8 hn8;have hm:MapAt w8 bm Value.string (Xm vi ([]:List (ByteArray×Int))):=MapAt.new hn8;have e8:=hn8.block;have z8:=hn8.size;have l6:=g6.lt;have hP:PaH w w8.heap.size p1 p2 p6 [.slice A bs.length cp] (Qg ty48.zero) (taC c (Qd5 6) every seed none 0 0 1000) none 0 [] w8:=⟨hx.trans hn8.ext,g1.ext hn8.ext,g2.ext hn8.ext,g6.ext hn8.ext,Own.nil⟩;clear hn8 g1 g2 g6 hx;have q1:p1<p2∧p2<p6∧p6<bm∧bm<w8.heap.size∧w.heap.size≤p1:=by omega
 clear e1 s1 e2 s2 e4 s3 z5 e6 z7 e8 z8 l6 hsz;refine Gg ?_
 refine Qh Qa (fun(x:List Stp×List (ByteArray×Int)×Option Addr×Nat×Int) w'=>5*x.1.length≤bs.length∧Qm0 x.1 x.2.1 x.2.2.2.2∧MapAt w' bm Value.string (Xm vi x.2.1)∧w8.heap.size≤w'.heap.size∧PaH w w8.heap.size p1 p2 p6 [.slice A bs.length cp] (Qg ty48.zero) (taC c (Qd5 6) every seed x.2.2.1 x.1.length x.2.2.2.1 x.2.2.2.2) x.2.2.1 x.2.2.2.1 x.1 w')
  (fun | (S,L,B,d,t) => [(1,.pointer (some ⟨p1,0,none⟩)),(2,.pointer (some ⟨p2,0,none⟩)),(3,.func (.func 21) #[] #[.pointer (some ⟨p1,0,none⟩)]),(6,.pointer (some ⟨p6,0,none⟩)),(7,.map (some bm)),(8,.int .i64 ((8+5*S.length:Nat):Int))]) (fun x=>bs.length-5*x.1.length) ([],[],none,0,1000) ⟨by simp,Q8m,hm,Nat.le_refl _,hP⟩ Rr ?_
 clear hm hP;rintro ⟨S,L,B,d,t⟩ w9 ⟨hk,hT,hm,h89,hP⟩;simp only at hk hT hm hP
 conv=>whnf
 refine⟨.slice A bs.length cp,hP.a1.one0,Hh ?_⟩;constructor
 · intro hlt
   have hlt:8+5*S.length<bs.length:=by
    have:(((8+5*S.length:Nat)):Int)<bs.length:=by simpa using hlt
    omega
   have hSl:S.length≤59:=by omega
   have hBl:∀ a,B=some a→w8.heap.size≤a.block∧a.block<w9.heap.size:=fun a ha=>hP.own.block ha
   refine Gg ?_;intro p9 wa hna;have g9:At wa p9 80 (Qlm 5 (fun j=>bs.getD (8+5*S.length+j) 0) 0):=hna.At;have e9:=hna.block;have xa:=hna.ext;clear hna;refine Gg ?_
   refine Qh Qa (fun(j:Nat) w'=>j≤5∧Ext w9 w'∧At w' p9 80 (Qlm 5 (fun j=>bs.getD (8+5*S.length+j) 0) j))
    (fun j => [(1,.pointer (some ⟨p1,0,none⟩)),(2,.pointer (some ⟨p2,0,none⟩)),(3,.func (.func 21) #[] #[.pointer (some ⟨p1,0,none⟩)]),(6,.pointer (some ⟨p6,0,none⟩)),(7,.map (some bm)),(8,.int .i64 ((8+5*S.length:Nat):Int)),(9,.pointer (some ⟨p9,0,none⟩)),(35,.int .i64 (j:Nat))]) (fun j=>5-j) 0 ⟨by omega,xa,g9⟩ Rr ?_
   clear xa g9;rintro j wb ⟨hj,xb,g9⟩
   conv=>whnf
   constructor
   · intro hlj
     have hlj:j<5:=by
      have:(j:Int)<5:=by simpa using hlj
      omega
     refine Gg ?_;refine⟨((8+5*S.length+j:Nat):Int),Qaq (by omega),Gg ?_⟩;refine(Qym p1 bs A cp wb (hP.a1.ext xb) (hs.ext (hP.ext.trans xb)) hb (8+5*S.length+j)).mono ?_;rintro _ w5 ⟨rfl,hw⟩;replace hw:=hw.symm;subst hw;refine Gg ?_;refine⟨⟨by omega,by omega⟩,Gg ?_⟩;refine Qoj (f:=fun j=>bs.getD (8+5*S.length+j) 0) hlj g9 rfl fun wc gc hoc => (Gg ?_)
     refine⟨_,wrap_succ (by omega),Gg ?_⟩
     exact⟨j+1,by omega,⟨by omega,hoc.ext xb (by omega),gc⟩,Rr⟩
   intro hgj
   have hgj:j=5:=by
    have:¬ (j:Int)<5:=by simpa using hgj
    omega
   subst hgj;have f0:=hget (8+5*S.length+0);have f1:=hget (8+5*S.length+1);have f2:=hget (8+5*S.length+2);have f3:=hget (8+5*S.length+3);have f4:=hget (8+5*S.length+4);have g9:At wb p9 80 [vi (bs.getD (8+5*S.length+0) 0:Nat),vi (bs.getD (8+5*S.length+1) 0:Nat),vi (bs.getD (8+5*S.length+2) 0:Nat),vi (bs.getD (8+5*S.length+3) 0:Nat),vi (bs.getD (8+5*S.length+4) 0:Nat)]:=g9;generalize bs.getD (8+5*S.length+0) 0=x0 at f0 g9;generalize bs.getD (8+5*S.length+1) 0=x1 at f1 g9;generalize bs.getD (8+5*S.length+2) 0=x2 at f2 g9;generalize bs.getD (8+5*S.length+3) 0=x3 at f3 g9;generalize bs.getD (8+5*S.length+4) 0=x4 at f4 g9;refine Gg ?_;refine⟨.int .i64 t,(hP.a6.ext xb).one rfl,Gg ?_⟩;intro p11 wc hnc;refine Gg ?_;refine Qd Qa (e:=ty52) rfl hnc.At rfl rfl rfl (by simp[Qg,Value.oneCell']) fun wd g11 hod => ?_
   have g11:At wd p11 52 (Q1e ⟨0,ev0,⟨#[]⟩,t,0,0⟩):=g11;have e11:=hnc.block;have zb:=xb.size;have xd:Ext w9 wd:=hod.ext (xb.trans hnc.ext) (by omega);have l9:=g9.lt;have hne:p9≠p11:=by omega
   replace g9:=hod.at_ (g9.ext hnc.ext) hne;clear hod hnc xb;have tick:=hT.end_;have hnm:=Q8n hT (by omega);refine Gg ?_;refine⟨⟨by decide,by decide⟩,Gg ?_⟩;refine⟨.int .i64 (x3:Nat),g9.one rfl,Hh ?_⟩
   refine Xh Qa (ι:=Stp×List (ByteArray×Int)) (fun _ => [(1,.pointer (some ⟨p1,0,none⟩)),(2,.pointer (some ⟨p2,0,none⟩)),(3,.func (.func 21) #[] #[.pointer (some ⟨p1,0,none⟩)]),(6,.pointer (some ⟨p6,0,none⟩)),(7,.map (some bm)),(8,.int .i64 ((8+5*S.length:Nat):Int)),(9,.pointer (some ⟨p9,0,none⟩)),(11,.pointer (some ⟨p11,0,none⟩))])
    (fun y w'=>PaH w w8.heap.size p1 p2 p6 [.slice A bs.length cp] (Qg ty48.zero) (taC c (Qd5 6) every seed B S.length d t) B d S w'∧w9.heap.size≤w'.heap.size∧MapAt w' bm Value.string (Xm vi y.2)∧At w' p9 80 [vi (x0:Nat),vi (x1:Nat),vi (x2:Nat),vi (x3:Nat),vi (x4:Nat)]∧At w' p11 52 (Q1e y.1)∧∀ δ:Int,0≤δ∧δ≤15→Qm0 (S ++ [y.1]) y.2 (t+δ)) ?_ ?_
   · -- one of the kinds of steps
     have oth:∀ (s:Stp) (w':World),Ext w9 w'→At w' p9 80 [vi (x0:Nat),vi (x1:Nat),vi (x2:Nat),vi (x3:Nat),vi (x4:Nat)]→At w' p11 52 (Q1e s)→s.what≠0 →
      (PaH w w8.heap.size p1 p2 p6 [.slice A bs.length cp] (Qg ty48.zero) (taC c (Qd5 6) every seed B S.length d t) B d S w'∧w9.heap.size≤w'.heap.size∧MapAt w' bm Value.string (Xm vi L)∧At w' p9 80 [vi (x0:Nat),vi (x1:Nat),vi (x2:Nat),vi (x3:Nat),vi (x4:Nat)]∧At w' p11 52 (Q1e s)∧∀ δ:Int,0≤δ∧δ≤15→Qm0 (S ++ [s]) L (t+δ)) :=
      fun s w' hxw h9 h11 hw=>⟨hP.ex hxw,hxw.size,hm.ext hxw,h9,h11,fun δ hδ=>Q1k hT hw hδ⟩
     refine Gg ?_;refine⟨⟨by decide,by decide⟩,Gg ?_⟩;refine⟨.int .i64 (x0:Nat),g9.one rfl,Gg ?_⟩;refine⟨((x0 % 16:Nat):Int),tmn (b:=16) (by decide),Gg ?_⟩;refine⟨fun h => ?_,fun h => ?_⟩
     · refine Gg ?_
       refine Qd Qa (e:=ty50) (off:=0) rfl g11 rfl rfl rfl (by simp[Qg,Value.oneCell']) fun we ge hoe => (Gg ?_)
       refine Qd Qa (e:=ty3) (off:=12) rfl ge rfl rfl rfl (by simp[Qg,Value.oneCell']) fun wf gf hof => (Gg ?_)
       exact⟨(⟨1,ev0,⟨#[]⟩,t,0,(x3:Nat)⟩,L),oth _ _ (hof.ext (hoe.ext xd (by omega)) (by omega)) (hof.at_ (hoe.at_ g9 hne) hne) gf (show (1:Int)≠0 by decide),Rr⟩
     have h13:¬ x0 % 16=13:=by
      have:¬ ((x0 % 16:Nat):Int)=13:=by simpa using h
      omega
     refine Gg ?_;refine⟨((x3 % 2:Nat):Int),fun _=>tmn (b:=2) (by decide),Gg ?_⟩;refine⟨fun h => ?_,fun h => ?_⟩
     · refine Gg ?_
       refine Qd Qa (e:=ty50) (off:=0) rfl g11 rfl rfl rfl (by simp[Qg,Value.oneCell']) fun we ge hoe => (Gg ?_)
       refine Qd Qa (e:=ty3) (off:=11) rfl ge rfl rfl rfl (by simp[Qg,Value.oneCell']) fun wf gf hof => (Gg ?_)
       exact⟨(⟨2,ev0,⟨#[]⟩,t,(x3:Nat),0⟩,L),oth _ _ (hof.ext (hoe.ext xd (by omega)) (by omega)) (hof.at_ (hoe.at_ g9 hne) hne) gf (show (2:Int)≠0 by decide),Rr⟩
     refine Gg ?_;refine⟨fun h => ?_,fun h => ?_⟩
     · refine Gg ?_
       refine Qd Qa (e:=ty50) (off:=0) rfl g11 rfl rfl rfl (by simp[Qg,Value.oneCell']) fun we ge hoe => (Gg ?_)
       exact⟨(⟨3,ev0,⟨#[]⟩,t,0,0⟩,L),oth _ _ (hoe.ext xd (by omega)) (hoe.at_ g9 hne) ge (show (3:Int)≠0 by decide),Rr⟩
     have h14:¬ x0 % 16=14:=by
      have:¬ ((x0 % 16:Nat):Int)=14:=by simpa using h
      omega
     refine Gg ?_;refine⟨fun h => ?_,fun h => ?_⟩
     · refine Gg ?_
       refine⟨⟨by decide,by decide⟩,Gg ?_⟩;refine⟨.int .i64 (x1:Nat),g9.one rfl,Gg ?_⟩;refine⟨((x1 % 4:Nat):Int),tmn (b:=4) (by decide),Gg ?_⟩;refine(Qaj 112 (x1 % 4) (by omega) wd ((hg.ext hP.ext).ext xd)).mono ?_;rintro _ wn ⟨rfl,hxn⟩;refine Gg ?_;refine Qd Qa (e:=ty50) (off:=0) rfl (g11.ext hxn) rfl rfl rfl (by simp[Qg,Value.oneCell']) fun we ge hoe => (Gg ?_)
       refine Qd Qa (e:=ty9) (off:=9) rfl ge rfl rfl rfl (by simp[Qg,Value.oneCell']) fun wf gf hof => (Gg ?_)
       exact⟨(⟨4,ev0,nb 112 (x1 % 4),t,0,0⟩,L),oth _ _ (hof.ext (hoe.ext (xd.trans hxn) (by omega)) (by omega)) (hof.at_ (hoe.at_ (g9.ext hxn) hne) hne) gf (show (4:Int)≠0 by decide),Rr⟩
     have h15:¬ x0 % 16=15:=by
      have:¬ ((x0 % 16:Nat):Int)=15:=by simpa using h
      omega
     have hk13:x0 % 16<13:=by omega
     clear oth;refine Gg ?_;refine⟨⟨by decide,by decide⟩,Gg ?_⟩;refine⟨.int .i64 (x0:Nat),g9.one rfl,Gg ?_⟩;refine⟨((x0/16:Nat):Int),tdn (b:=16) (by omega) (by decide),Gg ?_⟩;refine⟨((x0/16 % 2:Nat):Int),tmn (b:=2) (by decide),Gg ?_⟩;refine(Qaj 115 (x0/16 % 2) (by omega) wd ((hg.ext hP.ext).ext xd)).mono ?_;rintro _ wn ⟨rfl,hxn⟩;have hsm:=Q8s (b1:=x1) (b2:=x2) hk13 f3 (hnm (nb 115 (x0/16 % 2)) |> fun h=>⟨h.1,h.2.1⟩) ⟨(hnm ⟨#[]⟩).2.2.1,(hnm ⟨#[]⟩).2.2.2⟩;have hmn:=hm.ext (xd.trans hxn);have hPn:=hP.ex (xd.trans hxn);replace g9:=g9.ext hxn;replace g11:=g11.ext hxn;have zn:=(xd.trans hxn).size;have hcn:=hnm (nb 115 (x0/16 % 2));clear hm hxn xd;refine Gg ?_;refine⟨_,Qxq hmn _,Gg ?_⟩;refine⟨Qkq L (nb 115 (x0/16 % 2))+1,wrap_i64 ⟨by omega,by omega⟩,Gg ?_⟩;refine Qq Q9n (Qo Xc) hmn (nb 115 (x0/16 % 2)) (vi (Qkq L (nb 115 (x0/16 % 2))+1)) fun wo hmo hoo => ?_
     rw[Q9] at hmo;replace hPn:=hPn.only hoo (by omega) (by omega) (by omega) (by omega) (fun a ha=>by have:=(hBl a ha).1;omega);replace g9:=hoo.at_ g9 (by omega);replace g11:=hoo.at_ g11 (by omega);rw[← hoo.size] at zn;clear hoo hmn;refine Gg ?_;refine⟨[vi (x0:Nat),vi (x1:Nat),vi (x2:Nat),vi (x3:Nat),vi (x4:Nat)],⟨rfl,g9.all⟩,Gg ?_⟩;have hlk:=Qxq hmo (nb 115 (x0/16 % 2));rw[show Qkq (Q7 L (nb 115 (x0/16 % 2)) (Qkq L (nb 115 (x0/16 % 2))+1)) (nb 115 (x0/16 % 2))=Qkq L (nb 115 (x0/16 % 2))+1 by unfold Qkq;rw[Q8];rfl] at hlk;refine⟨_,hlk,Gg ?_⟩;refine⟨.int .i64 t,hPn.a6.one rfl,Gg ?_⟩;refine(Q6f x0 x1 x2 x3 x4 (Qkq L (nb 115 (x0/16 % 2))+1) t hk13 f0 f1 f2 f3 ⟨hcn.2.2.1,hcn.2.2.2⟩ wo (hg.ext hPn.ext) (hkn.ext hPn.ext)).mono ?_;rintro _ wt ⟨rfl,hxt⟩;generalize Qts x0 x1 x2 x3 (Qkq L (nb 115 (x0/16 % 2))+1) t=e at hsm ⊢;replace hPn:=hPn.ex hxt;replace g9:=g9.ext hxt;replace g11:=g11.ext hxt;replace hmo:=hmo.ext hxt;replace zn:=Nat.le_trans zn hxt.size;clear hlk hxt;refine Gg ?_;refine Qd Qa (e:=ty50) (off:=0) rfl g11 rfl rfl rfl (by simp[Qg,Value.oneCell']) fun we ge hoe => (Gg ?_)
     refine Qd Qa (e:=ty38) (off:=1) rfl ge rfl rfl rfl (Qbo e) fun wf gf hof => (Gg ?_)
     have hBn:∀ a,B=some a→a.block≠p11:=fun a ha=>by have:=(hBl a ha).2;omega
     refine⟨(⟨0,e,⟨#[]⟩,t,0,0⟩,Q7 L (nb 115 (x0/16 % 2)) (Qkq L (nb 115 (x0/16 % 2))+1)),⟨(hPn.only hoe (by omega) (by omega) (by omega) (by omega) hBn).only hof (by omega) (by omega) (by omega) (by omega) hBn,by rw[hof.size,hoe.size];exact zn,(hmo.only hoe (by omega)).only hof (by omega),hof.at_ (hoe.at_ g9 hne) hne,gf,fun δ hδ => ?_⟩,Rr⟩
     have:=Q6c hT (s:=⟨0,e,⟨#[]⟩,t,0,0⟩) rfl hδ hsm.1 hsm.2.1 (by rw[hsm.2.2.2,hsm.2.2.1]) (by
      rw[show (⟨0,e,⟨#[]⟩,t,0,0⟩:Stp).ev.src=nb 115 (x0/16 % 2) from hsm.2.2.1];rcases (show x0/16 % 2=0∨x0/16 % 2=1 by omega) with h | h
      · exact .inl (by rw[h])
      · exact .inr (by rw[h]))
     rw[show (⟨0,e,⟨#[]⟩,t,0,0⟩:Stp).ev.src=nb 115 (x0/16 % 2) from hsm.2.2.1] at this
     exact this
   rintro ⟨s,L'⟩ we ⟨hP,z9,hm,g9,g11,hTI⟩;simp only at hm g11 hTI;clear hT hnm;refine Gg ?_;refine⟨.slice B S.length d,hP.a6.one rfl,Gg ?_⟩;refine⟨Q1e s,⟨rfl,g11.all⟩,Gg ?_⟩;intro pb wb2 hnb;refine Gg ?_;have hPb:=hP.ex hnb.ext;have zb2:=hnb.ext.size;refine Qs Q9d (l:=S) (news := [s]) rfl hPb.own rfl (Q9d.new1 (x:=s) hnb) (by simp;omega) (by omega) fun A7 c7 w7 hown7 hg7 hA7 => ?_
   have hr:∀ q,(q<w8.heap.size∨w9.heap.size≤q)→B.map (·.block)≠some q:=fun q hq e=>by
    cases B with
    | none=>simp at e
    | some a =>
      have:=hBl a rfl
      simp at e
      omega
   have x7:Ext w w7:=Qr hPb.ext hg7 (fun k hk=>by have:=Xy hPb.own k hk;omega);have a1:=Qkp (n0:=0) hPb.a1 hg7 (hr _ (by omega));have a2:=Qkp (n0:=0) hPb.a2 hg7 (hr _ (by omega));have a6:=Qkp (n0:=0) hPb.a6 hg7 (hr _ (by omega));have a9:=Qkp (n0:=0) (g9.ext hnb.ext) hg7 (hr _ (by omega));have hmb:=(hm.ext hnb.ext).keep (hg7.block bm (hm.ext hnb.ext).lt fun e=>hr bm (by omega) e.symm);have hTI4:=hTI ((x4 % 16:Nat):Int) ⟨by omega,by omega⟩;have hl2:(S ++ [s]).length=S.length+1:=by simp
   have z7:=hg7.size;clear hP hPb hnb g9 g11 hm hTI hg7;generalize S ++ [s]=S2 at hown7 hTI4 hl2 ⊢;refine Gg ?_;refine Qd Qa (e:=ty46) (off:=22) rfl a6 rfl rfl rfl (by simp[Qg,Value.oneCell']) fun wg gg hog => ?_
   have gg:At wg p6 48 (taC c (Qd5 6) every seed A7 S2.length c7 t):=gg;refine Gg ?_;refine⟨.int .i64 t,gg.one rfl,Gg ?_⟩;refine⟨⟨by decide,by decide⟩,Gg ?_⟩;refine⟨.int .i64 (x4:Nat),(hog.at_ a9 (by omega)).one rfl,Gg ?_⟩;refine⟨((x4 % 16:Nat):Int),tmn (b:=16) (by decide),Gg ?_⟩;refine⟨t+((x4 % 16:Nat):Int),wrap_i64 ⟨by omega,by omega⟩,Gg ?_⟩;refine Qd Qa (e:=ty3) (off:=23) rfl gg rfl rfl rfl (by simp[Qg,Value.oneCell']) fun wh gh hoh => ?_
   have gh:At wh p6 48 (taC c (Qd5 6) every seed A7 S2.length c7 (t+((x4 % 16:Nat):Int))):=gh;refine Gg ?_
   have z8:((8+5*S2.length:Nat):Int)=IntKind.i64.wrap (((8+5*S.length:Nat):Int)+5):=by
    rw[← wrap_i64 ⟨by omega,by omega⟩];omega
   refine⟨((8+5*S2.length:Nat):Int),z8,Gg ?_⟩;have hAb:∀ a,A7=some a→a.block≠p6:=fun a ha=>by have:=(hown7.block ha).1;omega
   refine⟨(S2,L',A7,c7,t+((x4 % 16:Nat):Int)),by simp only;omega,⟨by simp only;omega,hTI4,(hmb.only hog (by omega)).only hoh (by omega),by rw[hoh.size,hog.size];omega,⟨hoh.ext (hog.ext x7 (by omega)) (by omega),hoh.at_ (hog.at_ a1 (by omega)) (by omega),hoh.at_ (hog.at_ a2 (by omega)) (by omega),gh,(hown7.keep fun a ha=>hog.block _ (hAb a ha)).keep fun a ha=>hoh.block _ (hAb a ha)⟩⟩,Rr⟩
 · intro _
   have hn2:w.heap.size≤p2:=by omega
   refine Gg ?_;refine⟨taC c (Qd5 6) every seed B S.length d t,⟨rfl,hP.a6.all⟩,Gg ?_⟩;refine Qd Qa (e:=ty48) rfl hP.a2 rfl rfl rfl (by simp[Qg,taC,Qas,Value.oneCell']) fun wf gf hof => ?_
   have gf:At wf p2 48 (taC c (Qd5 6) every seed B S.length d t):=gf;refine Gg ?_;refine⟨taC c (Qd5 6) every seed B S.length d t,⟨rfl,gf.all⟩,Gg ?_⟩
   exact⟨c,every,seed,B,d,S,L,t,rfl,⟨hcf,hev,hsd⟩,hT,hk,(hP.own.keep fun a ha=>hof.block _ (by have:=(hP.own.block ha).1;omega)).sl Qyg,hof.ext hP.ext hn2⟩
theorem Q1p (S:List Stp) (k:Nat) (hk:k<S.length):Qdi (S.take (k+1))=Qdi (S.take k)++if S[k].what=0 then [S[k].ev] else []:=by
 rw[Qiu S k hk,Qjr]
set_option maxHeartbeats 2000000 in
theorem Quf (bs:List Nat) (A:Option Addr) (cp:Nat) (w:World) (hg:Gl w) (hkn:Q12 w) (hs:Sl u8C 1 w A bs) (hb:∀ x∈bs,x<256) :
 Cal Tryz.prog 4 [.slice A bs.length cp] w fun r w'=>Ext w w'∧(r = .tuple #[.slice none 0 0,ty32.zero,.int .i64 0,.bool false] ∨
  ∃ c every seed B d l t,r = .tuple #[.slice B l.length d,.agg (Qas c (Qd5 6) every seed).toArray,.int .i64 t,.bool true]∧(Qt3 c=true∧(0≤every∧every≤3)∧(0≤seed∧seed≤255))∧(Qg1 l∧∀ e∈l,e.src=nb 115 0∨e.src=nb 115 1)∧l.length≤60∧(0≤t∧t≤1000000)∧SlE w' B l):=by
 refine Fi Tryz.func4 rfl _ rfl rfl (Hh ?_);intro p3 w1 hn1;refine Gg ?_;have g3:At w1 p3 32 (Qg ty32.zero):=hn1.At;have hx:=hn1.ext;have e3:=hn1.block;have s1:=hn1.size;clear hn1;constructor
 · intro h
   refine Gg ?_;refine Qd Qa (e:=ty32) rfl g3 rfl rfl rfl (by simp[Qg,Value.oneCell']) fun w2 g2 ho2 => ?_
   have g2:At w2 p3 32 (Qg ty32.zero):=g2;refine Gg ?_;refine⟨Qg ty32.zero,⟨rfl,g2.all⟩,Gg ?_⟩
   exact⟨ho2.ext hx (by omega),.inl rfl⟩
 intro h
 have hl:bs.length≤300:=by
  have:¬ (300:Int)<bs.length:=by simpa using h
  omega
 refine Gg ?_;refine(Qn7 bs A cp w1 (hg.ext hx) (hkn.ext hx) (hs.ext hx) hb hl).mono ?_;rintro _ w2 ⟨c,every,seed,B,d,S,L,t,rfl,hcf,hT,hk,hsS,hx2⟩;refine Gg ?_;intro p6 w3 hn3;refine Gg ?_;refine Qd Qa (e:=ty48) rfl hn3.At rfl rfl rfl (by simp[Qg,taC,Qas,Value.oneCell']) fun w4 g6 ho4 => ?_
 have g6:At w4 p6 48 (taC c (Qd5 6) every seed B S.length d t):=g6;have e6:=hn3.block;have hx24:Ext w2 w4:=ho4.ext hn3.ext (by omega);have s2:=hx2.size;replace hx:=(hx.trans hx2).trans hx24;replace g3:=(g3.ext hx2).ext hx24;replace hsS:=hsS.ext hx24;clear ho4 hn3 hx2 hx24;refine Gg ?_;refine⟨.slice B S.length d,g6.one rfl,Gg ?_⟩
 refine Qh Qa (fun(q:Nat×Option Addr×Nat×List Ev) w'=>q.1≤S.length∧q.2.2.2=Qdi (S.take q.1)∧Own evC 8 38 w4.heap.size w' q.2.1 q.2.2.1 q.2.2.2∧Ext w4 w')
  (fun | (k,B',d',U) => [(3,.pointer (some ⟨p3,0,none⟩)),(6,.pointer (some ⟨p6,0,none⟩)),(7,.slice B' U.length d'),(17,.slice B S.length d),(18,.int .i64 S.length),(19,.int .i64 (k:Nat))]) (fun q=>S.length-q.1) (0,none,0,[]) ⟨Nat.zero_le _,rfl,Own.nil,Ext.refl _⟩ Rr ?_
 rintro ⟨k,B',d',U⟩ w5 ⟨hkl,hU,hown,hx5⟩;simp only at hkl hU hown
 have hUl:U.length≤k:=by
  rw[hU];have:=Q6e (S.take k);rw[List.length_take] at this;omega
 conv=>whnf
 constructor
 · intro hlt
   have hlt:k<S.length:=by simpa using hlt
   obtain⟨a,rfl,hc⟩:=(hsS.ext hx5).get hlt;have htk:=Q1p S k hlt;rw[← hU] at htk;generalize S[k]=x at hc htk;refine Gg ?_;refine⟨a,Ix,Gg ?_⟩;refine⟨Q1e x,⟨rfl,hc⟩,Gg ?_⟩;intro p9 w6 hn6;refine Gg ?_;refine Qd Qa (e:=ty52) rfl hn6.At rfl rfl rfl (Qyh x) fun w7 g9 ho7 => ?_
   have g9:At w7 p9 52 (Q1e x):=g9;have hx57:Ext w5 w7:=ho7.ext hn6.ext (by rw[hn6.block];exact Nat.le_refl _);clear ho7 hn6;replace hx5:=hx5.trans hx57;replace hown:=hown.ext hx57;refine Gg ?_;refine⟨vi x.what,g9.one rfl,Gg ?_⟩;constructor
   · intro hq
     have hq:x.what=0:=by simpa using hq
     rw[if_pos hq] at htk;refine Gg ?_;refine⟨evC x.ev,⟨rfl,At.sub (pre := [vi x.what]) (post := [.string x.person,vi x.now,vi x.keep,vi x.of_]) g9⟩,Gg ?_⟩;intro b8 w8 hn8;refine Gg ?_;refine Qs Qkk (l:=U) (news := [x.ev]) rfl (hown.ext hn8.ext) rfl (Qkk.new1 (x:=x.ev) hn8) (by simp;omega) (hx5.trans hn8.ext).size fun A9 c9 w9 hown9 hg9 hA9 => ?_
     have hx9:=Qr (hx5.trans hn8.ext) hg9 (Xy (hown.ext hn8.ext));generalize U ++ [x.ev]=U2 at hown9 htk ⊢;refine Gg ?_;refine⟨_,wrap_succ (by omega),Gg ?_⟩
     exact⟨(k+1,A9,c9,U2),by simp only;omega,⟨by simp only;omega,htk.symm,hown9,hx9⟩,Rr⟩
   · intro hq
     have hq:¬ x.what=0:=by simpa using hq
     rw[if_neg hq,List.append_nil] at htk;refine Gg ?_;refine⟨_,wrap_succ (by omega),Gg ?_⟩
     exact⟨(k+1,B',d',U),by simp only;omega,⟨by simp only;omega,htk.symm,hown,hx5⟩,Rr⟩
 · intro hge
   have hge:S.length≤k:=by simpa using hge
   rw[List.take_of_length_le hge] at hU;have hap:Qg1 (Qdi S)∧∀ e∈Qdi S,e.src=nb 115 0∨e.src=nb 115 1:=⟨hT.ap,hT.src⟩;rw[← hU] at hap;have hte:=hT.end_;have hne:p6≠p3:=by omega
   have hp3:w.heap.size≤p3:=by omega
   have hown3:∀ a,B'=some a→a.block≠p3:=fun a ha=>by have:=(hown.block ha).1;have:=g3.lt;omega
   replace g3:=g3.ext hx5;replace g6:=g6.ext hx5;replace hx:=hx.trans hx5;clear hsS hx5;refine Gg ?_;refine Dr (.mods (fun q=>q=p3)) [0,1,2,3,4,5,6,7,8] [] (Hh ?_);have hxd:Ext w5 w5.drew:=(Ext.refl w5).drew;replace g3:=g3.ext hxd;replace g6:=g6.ext hxd;replace hx:=hx.trans hxd;replace hown:=hown.ext hxd;generalize w5.drew=w6 at g3 g6 hx hown ⊢;refine⟨Qas c (Qd5 6) every seed,⟨rfl,At.sub (pre := []) (post := [.slice B S.length d,vi t]) g6,by rw[add_block];exact hne⟩,Hh ?_⟩;refine⟨vi t,⟨g6.one rfl,by rw[add_block];exact hne⟩,Hh ?_⟩;refine Qd Qa (e:=ty32) rfl g3 rfl rfl rfl (by simp[Qg,Qas,Value.oneCell']) fun w7 g7 ho7 => ?_
   have g7:At w7 p3 32 (Qas c (Qd5 6) every seed):=g7;refine⟨Qi ho7 rfl,Gg ?_⟩;refine⟨Qas c (Qd5 6) every seed,⟨rfl,g7.all⟩,Gg ?_⟩;refine⟨ho7.ext hx hp3,.inr ⟨c,every,seed,B',d',U,t,rfl,hcf,hap,by omega,⟨by omega,by omega⟩,?_⟩⟩
   exact(hown.keep fun a ha=>ho7.block _ (hown3 a ha)).sl Xz
theorem Qhi (w:World) (hg:Gl w) (hkn:Q12 w):Cal Tryz.prog 5 [] w fun r w'=>r = .bool true∧Ext w w':=by
 refine Fi Tryz.func5 rfl _ rfl rfl (Hh ?_);refine(Qn7 [] none 0 w hg hkn Sl.nil (by simp) (by simp)).mono ?_;rintro _ w2 ⟨c,every,seed,B,d,S,L,t,rfl,hcf,hT,hk,hsS,hx2⟩;have h0:S = []:=List.eq_nil_of_length_eq_zero (by simp at hk;omega)
 have ht:t=1000:=by
  have:=hT.end_;rw[h0] at this
  simp at this
  omega
 subst ht;refine Gg ?_
 exact⟨rfl,hx2⟩
end Go.Proofs.YtohkipkjleldpaaGreatDoor
