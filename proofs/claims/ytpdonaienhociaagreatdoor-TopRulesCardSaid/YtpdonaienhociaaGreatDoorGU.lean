import Derived.ChangeKeysEq
import Derived.Test.YtpdonaienhociaaGreatDoorGV
import Derived.Test.YtpdonaienhociaaGreatDoorGI
set_option linter.all false
namespace Go.Proofs.YtpdonaienhociaaGreatDoor
open Go.Se Go.RowKit
def u8C (q:Nat):List Value := [.int .u8 (q:Nat)]
def Q15 (w:World):Prop:=Xp w ⟨0,0,none⟩ (kT.map vi)
theorem Q15.ext {w w':World} (h:Q15 w) (hx:Ext w w'):Q15 w':=hx.cells h
theorem tdn {a b:Nat} (ha:a<1000000000) (hb:b≠0):((b:Nat):Int)≠0/\((a/b:Nat):Int)=IntKind.i64.wrap ((a:Int).tdiv (b:Int)):=by
 refine⟨Om,?_⟩;have h:=Nat.div_le_self a b;have e:(a:Int).tdiv (b:Int)=((a/b:Nat):Int):=(by rw[Zcn Om];exact(Int.natCast_ediv a b).symm);rw[e];generalize a/b=q at h ⊢;exact wrap_i64 ⟨Om,Om⟩
theorem tmn {a b:Nat} (hb:b≠0):((b:Nat):Int)≠0/\((a % b:Nat):Int)=(a:Int).tmod (b:Int):=by
 refine⟨Om,?_⟩;rw[Za6 Om];exact Int.natCast_emod a b
theorem Q1y (b1:Nat) (bs:List Nat) (A:Option Addr) (c:Nat) (w:World) (h1:At w b1 22 [.slice A bs.length c]) (hs:Sl u8C 1 w A bs) (hb:∀ x∈bs,x<256) (i:Nat) :
 Cal Tryz.prog 58 [Vj (i:Nat),Pj b1] w fun r w'=>r = Vj ((bs.getD i 0:Nat):Int)/\w'=w:=by
 refine Fi Tryz.func58 rfl _ rfl rfl (Hh ?_);refine⟨.slice A bs.length c,h1.one0,Gg ?_⟩;constructor
 . intro hlt;have hlt:i<bs.length:=Su hlt;obtain⟨a,rfl,hc⟩:=hs.get hlt;have hx:=hb _ (Zx hlt);have hgd:bs.getD i 0=bs[i]:=by simp[List.getD,hlt]
   rw[hgd];generalize bs[i]=x at hc hx;refine Gg ?_;refine⟨.slice (some a) bs.length c,h1.one0,Gg ?_⟩;refine⟨a,Ix,Gg ?_⟩;refine⟨.int .u8 (x:Nat),Qs hc,Gg ?_⟩;refine⟨(x:Nat),wrap_i64 ⟨Om,Om⟩,Gg ?_⟩;exact⟨rfl,rfl⟩
 . intro hge;have hge:bs.length<=i:=Su hge;rw[show bs.getD i 0=0 by simp[List.getD,hge]];refine Gg ?_;exact⟨rfl,rfl⟩
theorem Xjw:∀ n<10,Qr1 n=⟨#[UInt8.ofNat (48+n)]⟩:=by decide +kernel
theorem Qax (ch n:Nat) (hn:n<10) (w:World) (hg:Gl w):Cal Tryz.prog 60 [.string ⟨#[UInt8.ofNat ch]⟩,Vj (n:Nat)] w fun r w'=>r = .string (nb ch n)/\Ext w w':=by
 refine Fi Tryz.func60 rfl _ rfl rfl (Hh ?_);refine(Qfv n w hg Om Om).mono ?_;rintro _ w2 ⟨rfl,hx⟩;rw[Za4,Xjw n hn];refine Gg ?_;refine⟨sz2 (show 1<=1000000000 by decide) (show 1<=1000000000 by decide),Gg ?_⟩;exact⟨rfl,hx⟩
theorem Xgg {L:List Value} {k:Nat} {v:Value} (hk:k<L.length):spl L k [v]=L.set k v:=by
 unfold spl;rw[List.set_eq_take_append_cons_drop,if_pos hk];simp
def Qnu (n:Nat) (f:Nat->Nat) (k:Nat):List Value:=(List.range n).map fun j=>vi (if j<k then(f j:Nat) else 0)
theorem Qu3 (n:Nat) (f:Nat->Nat) (k:Nat):(Qnu n f k).length=n:=by simp[Qnu]
theorem Q67 {n:Nat} (f:Nat->Nat) {k:Nat} (hk:k<n):(Qnu n f k).set k (vi (f k:Nat))=Qnu n f (k+1):=by
 unfold Qnu;apply Zb3;intro i;rw[List.getElem?_set]
 by_cases h:k=i
 . subst h;simp[hk]
 . rw[if_neg h]
   by_cases hi:i<n
   . simp only[Zaq,List.getElem?_range hi,Zch];have:(i<k+1)↔(i<k):=Om;simp only[this]
   . simp[hi]
theorem Qq9 {n:Nat} {f:Nat->Nat} {k:Nat} (hk:k<n) {w:World} {b tb:Nat} (h:At w b tb (Qnu n f k)) {x:Int} (hx:x=(f k:Nat)) {R:Value->World->Prop}
 (hR:∀ w',At w' b tb (Qnu n f (k+1))->Only w w' b->R undef w'):Qxc Tryz.prog (Instr.storeAt 3 (.pointer (some ((⟨b,0,none⟩:Addr).add (k*1)))) (Vj x)) w R:=by
 rw[Q8,Zbh];subst hx;refine Qh2 Qb (e:=ty3) rfl h rfl (by rw[Qu3];show k+1<=n;omega) Oj fun w' h' ho=>hR w' ?_ ho
 have e:Qg (Vj ((f k:Nat):Int)) = [vi (f k:Nat)]:=rfl;rw[e,Xgg (by rw[Qu3];exact hk),Q67 f hk] at h';exact h'
def Qaq (k:Nat) (i:Nat):Int:=if i<k then 100 else 0
theorem Q92 (c:Cfg) (every seed:Int) {k:Nat} (hk:k<6):spl (Qap c (Qaq k) every seed) (6+k) [vi 100]=Qap c (Qaq (k+1)) every seed:=by
 rcases k with _ | _ | _ | _ | _ | _ | k
 . rfl
 . rfl
 . rfl
 . rfl
 . rfl
 . rfl
 . omega
theorem Xdh (c:Cfg) (a:Nat->Int) (every seed:Int):(Qap c a every seed).length=22:=rfl
theorem Xbx (b0 b1 b2 b3 b4 b5:Nat):Xfe b0 b1 b2 b3 b4 b5=⟨((1+10*b0:Nat):Int),((1+b1 % 20:Nat):Int),((1+b2 % 50:Nat):Int),(((1+b1 % 20)*(1+b3 % 4):Nat):Int),((b4 % 3:Nat):Int),((b5 % 3:Nat):Int)⟩:=by
 unfold Xfe;have e1:(b1:Int).tmod 20=((b1 % 20:Nat):Int):=(tmn (b:=20) (by decide)).2.symm;have e2:(b2:Int).tmod 50=((b2 % 50:Nat):Int):=(tmn (b:=50) (by decide)).2.symm;have e3:(b3:Int).tmod 4=((b3 % 4:Nat):Int):=(tmn (b:=4) (by decide)).2.symm;have e4:(b4:Int).tmod 3=((b4 % 3:Nat):Int):=(tmn (b:=3) (by decide)).2.symm;have e5:(b5:Int).tmod 3=((b5 % 3:Nat):Int):=(tmn (b:=3) (by decide)).2.symm;rw[e1,e2,e3,e4,e5]
 push_cast
 rfl
set_option maxHeartbeats 1000000 in
theorem Qtb (b0 b1 b2 b3 b4 b5 b6 b7:Nat) (h0:b0<256) (h1:b1<256) (h2:b2<256) (h3:b3<256) (h4:b4<256) (h5:b5<256) (h6:b6<256) (h7:b7<256) (w:World) :
 Cal Tryz.prog 59 [.agg #[vi b0,vi b1,vi b2,vi b3,vi b4,vi b5,vi b6,vi b7]] w fun r w'=>r = .agg (Qap (Xfe b0 b1 b2 b3 b4 b5) (Qaq 6) ((b6 % 4:Nat):Int) (b7:Nat)).toArray/\Ext w w':=by
 rw[Xbx];refine Fi Tryz.func59 rfl _ rfl rfl (Hh ?_);intro p1 w1 hn1;refine Gg ?_;have g1:At w1 p1 151 [vi b0,vi b1,vi b2,vi b3,vi b4,vi b5,vi b6,vi b7]:=hn1.At;intro p2 w2 hn2;refine Gg ?_;have g2:At w2 p2 32 (Qap ⟨0,0,0,0,0,0⟩ (Qaq 0) 0 0)\/True := .inr trivial;replace g2:=hn2.At;replace g1:=g1.ext hn2.ext;have hx2:=hn1.ext.trans hn2.ext;have e2:=hn2.block;have s1:=hn1.size;clear hn1 hn2;refine⟨⟨Om,Om⟩,Gg ?_⟩;refine⟨vi b1,g1.one rfl,Gg ?_⟩;refine⟨((b1 % 20:Nat):Int),tmn (b:=20) (by decide),Gg ?_⟩;refine⟨((1+b1 % 20:Nat):Int),by rw[<- wrap_i64 ⟨Om,Om⟩];push_cast;rfl,Gg ?_⟩;refine⟨⟨Om,Om⟩,Gg ?_⟩;refine⟨vi b0,g1.one rfl,Gg ?_⟩;refine⟨((10*b0:Nat):Int),by rw[<- wrap_i64 ⟨Om,Om⟩];push_cast;rfl,Gg ?_⟩;refine⟨((1+10*b0:Nat):Int),by rw[<- wrap_i64 ⟨Om,Om⟩];push_cast;rfl,Gg ?_⟩;refine⟨⟨Om,Om⟩,Gg ?_⟩;refine⟨vi b2,g1.one rfl,Gg ?_⟩;refine⟨((b2 % 50:Nat):Int),tmn (b:=50) (by decide),Gg ?_⟩;refine⟨((1+b2 % 50:Nat):Int),by rw[<- wrap_i64 ⟨Om,Om⟩];push_cast;rfl,Gg ?_⟩;refine⟨⟨Om,Om⟩,Gg ?_⟩;refine⟨vi b3,g1.one rfl,Gg ?_⟩;refine⟨((b3 % 4:Nat):Int),tmn (b:=4) (by decide),Gg ?_⟩;refine⟨((1+b3 % 4:Nat):Int),by rw[<- wrap_i64 ⟨Om,Om⟩];push_cast;rfl,Gg ?_⟩;have hsp:(1+b1 % 20)*(1+b3 % 4)<=80:=Nat.mul_le_mul (show 1+b1 % 20<=20 by omega) (show 1+b3 % 4<=4 by omega);refine⟨(((1+b1 % 20)*(1+b3 % 4):Nat):Int),by rw[<- Int.natCast_mul];exact wrap_i64 ⟨Om,Om⟩,Gg ?_⟩;generalize (1+b1 % 20)*(1+b3 % 4)=sp at hsp ⊢;refine⟨⟨Om,Om⟩,Gg ?_⟩;refine⟨vi b4,g1.one rfl,Gg ?_⟩;refine⟨((b4 % 3:Nat):Int),tmn (b:=3) (by decide),Gg ?_⟩;refine⟨⟨Om,Om⟩,Gg ?_⟩;refine⟨vi b5,g1.one rfl,Gg ?_⟩;refine⟨((b5 % 3:Nat):Int),tmn (b:=3) (by decide),Gg ?_⟩;refine⟨⟨Om,Om⟩,Gg ?_⟩;refine⟨vi b6,g1.one rfl,Gg ?_⟩;refine⟨((b6 % 4:Nat):Int),tmn (b:=4) (by decide),Gg ?_⟩;refine⟨⟨Om,Om⟩,Gg ?_⟩;refine⟨vi b7,g1.one rfl,Gg ?_⟩;refine⟨((b7:Nat):Int),wrap_u64 ⟨Om,Om⟩,Gg ?_⟩;intro p4 w4 hn4;refine Gg ?_;refine Qc Qb (e:=ty32) rfl hn4.At rfl rfl rfl Oj fun w5 g5 ho5 => ?_
 generalize hc:(⟨((1+10*b0:Nat):Int),((1+b1 % 20:Nat):Int),((1+b2 % 50:Nat):Int),(sp:Int),((b4 % 3:Nat):Int),((b5 % 3:Nat):Int)⟩:Cfg)=c;have g5:At w5 p4 32 (Qap c (Qaq 0) ((b6 % 4:Nat):Int) (b7:Nat)):=by rw[<- hc];exact g5
 have e4:=hn4.block;have hx5:Ext w2 w5:=ho5.ext hn4.ext Om;have l2:=g2.lt;replace g2:=g2.ext hx5;replace hx2:=hx2.trans hx5;clear ho5 hn4 hx5 g1;have l4:=g5.lt;have n42:p4≠p2:=Om;have n4:w.heap.size<=p4/\w.heap.size<=p2:=by have:=hx2.size;omega
 clear hc
 refine Qh Qb (fun(k:Nat) w'=>k<=6/\Ext w w'/\At w' p2 32 (Qg ty32.zero)/\At w' p4 32 (Qap c (Qaq k) ((b6 % 4:Nat):Int) (b7:Nat)))
  (fun k => [(2,Pj p2),(4,Pj p4),(40,Vj (k:Nat))]) (fun k=>6-k) 0 ⟨Om,hx2,g2,g5⟩ Rr ?_
 clear g2 g5 hx2;rintro k w6 ⟨hk,hx6,g2,g4⟩;refine Hh ?_;constructor
 . intro hlt;have hlt:k<6:=(by have:(k:Int)<6:=Su hlt;omega);refine Gg ?_;refine⟨⟨Om,Om⟩,Gg ?_⟩;refine Qc Qb (e:=ty3) (off:=6+k) rfl g4 (by simp[Xf,Q8,Qt3]) rfl (Nat.ble_eq_true_of_le (by rw[Xdh];show 6+k+1<=22;omega)) Oj fun w7 g7 ho7 => ?_
   have g7:At w7 p4 32 (Qap c (Qaq (k+1)) ((b6 % 4:Nat):Int) (b7:Nat)):=by rw[<- Q92 _ _ _ hlt];exact g7
   refine Gg ?_;refine⟨_,wrap_succ Om,Gg ?_⟩;exact⟨k+1,Om,⟨Om,ho7.ext hx6 n4.1,ho7.at_ g2 (fun e=>n42 e.symm),g7⟩,Rr⟩
 . intro hge;have hge:k=6:=(by have:¬ (k:Int)<6:=Su hge;omega);subst hge;refine Gg ?_;refine⟨Qap c (Qaq 6) ((b6 % 4:Nat):Int) (b7:Nat),⟨rfl,g4.all⟩,Gg ?_⟩;refine Qc Qb (e:=ty32) rfl g2 rfl rfl rfl (by simp[Qg,Qap,Value.oneCell']) fun w8 g8 ho8 => ?_
   have g8:At w8 p2 32 (Qap c (Qaq 6) ((b6 % 4:Nat):Int) (b7:Nat)):=g8;refine Gg ?_;refine⟨Qap c (Qaq 6) ((b6 % 4:Nat):Int) (b7:Nat),⟨rfl,g8.all⟩,Gg ?_⟩;exact⟨rfl,ho8.ext hx6 n4.2⟩
def Qe0 (q j:Nat):Bool:=decide (q/2 ^ j % 2=1)
def Q6i (q k:Nat):List Value := [.bool (decide (0<k)&&Qe0 q 0),.bool (decide (1<k)&&Qe0 q 1),.bool (decide (2<k)&&Qe0 q 2)]
theorem Q6l {q k:Nat} (hk:k<3):spl (Q6i q k) k [.bool (Qe0 q k)]=Q6i q (k+1):=by
 rcases k with _ | _ | _ | k
 . rfl
 . rfl
 . rfl
 . omega
theorem Xjd {q k:Nat} (hk:k<64):(0:Int)<=(k:Nat)/\((q/2 ^ k:Nat):Int)=(q:Int).fdiv (2 ^ (min ((k:Nat):Int).toNat IntKind.i64.bits)):=by
 refine⟨Om,?_⟩
 have:min ((k:Nat):Int).toNat IntKind.i64.bits=k:=by
  rw[Za4];show min k 64=k
  omega
 have e:(2:Int) ^ k=((2 ^ k:Nat):Int):=by push_cast;rfl
 rw[this,e,Zcm _ (Int.natCast_nonneg _)];exact Int.natCast_ediv _ _
theorem Xi5:∀ a<64,((a % 2:Nat):Int)=IntKind.i64.wrap ((BitVec.ofInt IntKind.i64.bits ((a:Nat):Int) &&& BitVec.ofInt IntKind.i64.bits 1).toNat:Nat):=by decide +kernel
theorem Xe8 (x:Nat):decide (((x % 2:Nat):Int)=1)=decide (x % 2=1):=by
 rw[Zbx,decide_eq_true_iff,decide_eq_true_iff];omega
theorem Q28 (a b c:Bool) (ox oy:Operand):Qm4 Tryz.prog 278 ox oy (.agg #[.bool a,.bool b,.bool c]) (.agg #[.bool false,.bool false,.bool false]) (!a && !b && !c):=by
 have hu:Tryz.prog.underlying 278=some (.array 3 4):=by kernel_rfl
 have hb:Tryz.prog.underlying 4=some .bool:=by kernel_rfl
 have hc:Tryz.prog.cellsOf 4=1:=by kernel_rfl
 intro w;have h1:=run_eqGuard_agg (P:=Tryz.prog) w .eql 278 ox oy #[.bool a,.bool b,.bool c] #[.bool false,.bool false,.bool false] Kr;have h2:=run_eqGuard_agg (P:=Tryz.prog) w .neq 278 ox oy #[.bool a,.bool b,.bool c] #[.bool false,.bool false,.bool false] Kr;have h3:=run_eql_struct (P:=Tryz.prog) w 278 #[.bool a,.bool b,.bool c] #[.bool false,.bool false,.bool false];have h4:=run_neq_struct (P:=Tryz.prog) w 278 #[.bool a,.bool b,.bool c] #[.bool false,.bool false,.bool false]
 have h5:(Op.equalIn 10000 278 (.agg #[.bool a,.bool b,.bool c]) (.agg #[.bool false,.bool false,.bool false])).run Tryz.prog w = .ok (!a && !b && !c) w:=by
  obtain⟨i,hi⟩:∃ i,Tryz.prog.info? 4=some i:=(by obtain⟨i,d,hi,_⟩:=Xm ty4_ok;exact⟨i,hi⟩);rw[run_equalIn_array w 9999 _ _ hu hi,hc];have hp:∀ (xs:Array Value) (k:Nat) (x:Bool),xs[k]? = some (.bool x)->(part 4 xs k).run Tryz.prog w = .ok (.bool x) w:=fun xs k x hx=>(by have:(isAgg 4).run Tryz.prog w = .ok false w:=(by unfold isAgg;simp only[Sem.run_bind,run_underlying hb,Result.andThen_ok];rfl);simp[part,this,hx])
  have hr:List.range 3 = [0,1,2]:=rfl;rw[hr];have q:=fun(x:Bool)=>run_equalIn_bool' (P:=Tryz.prog) w 9998 4 x false hb
  simp only[Op.eqItems,Sem.run_bind,Zbh];rw[hp #[.bool a,.bool b,.bool c] 0 a rfl];simp only[Result.andThen_ok];rw[hp #[.bool false,.bool false,.bool false] 0 false rfl];simp only[Result.andThen_ok];rw[q a];simp only[Result.andThen_ok];cases a
  case true=>simp
  simp only[show (false == false)=true from rfl,Zcs,Zag,↓reduceIte,Sem.run_bind];rw[hp #[.bool false,.bool b,.bool c] 1 b rfl];simp only[Result.andThen_ok];rw[hp #[.bool false,.bool false,.bool false] 1 false rfl];simp only[Result.andThen_ok];rw[q b];simp only[Result.andThen_ok];cases b
  case true=>simp
  simp only[show (false == false)=true from rfl,Zcs,Zag,↓reduceIte,Sem.run_bind];rw[hp #[.bool false,.bool false,.bool c] 2 c rfl];simp only[Result.andThen_ok];rw[hp #[.bool false,.bool false,.bool false] 2 false rfl];simp only[Result.andThen_ok];rw[q c];simp only[Result.andThen_ok];cases c <;> simp
 rw[h5] at h3 h4;constructor
 . simp only[Sem.run_bind,h1,Result.andThen_ok,h3]
 . simp only[Sem.run_bind,h2,Result.andThen_ok,h4]
def Xaq (q k:Nat):List Bj:=((List.range k).filter (Qe0 q)).map (nb 116)
theorem Xat (q k:Nat):Xaq q (k+1)=Xaq q k++if Qe0 q k=true then [nb 116 k] else []:=by
 unfold Xaq;rw[Zc6,Zq,Zp];congr 1
 by_cases h:Qe0 q k=true
 . simp[h]
 . simp[h]
theorem Xjl (q:Nat):Qe0 q 0=Qe0 (q % 8) 0/\Qe0 q 1=Qe0 (q % 8) 1/\Qe0 q 2=Qe0 (q % 8) 2:=by
 unfold Qe0;have h0:q/2 ^ 0 % 2=q % 8/2 ^ 0 % 2:=by simp only[Nat.pow_zero,Nat.div_one];omega
 have h1:q/2 ^ 1 % 2=q % 8/2 ^ 1 % 2:=by simp only[Nat.pow_one];omega
 have h2:q/2 ^ 2 % 2=q % 8/2 ^ 2 % 2:=by simp only[show 2 ^ 2=4 from rfl];omega
 rw[h0,h1,h2];exact⟨rfl,rfl,rfl⟩
theorem Xje (q:Nat):Xaq q 3=Xaq (q % 8) 3:=by
 obtain⟨h0,h1,h2⟩:=Xjl q;unfold Xaq;congr 1;show List.filter (Qe0 q) [0,1,2]=List.filter (Qe0 (q % 8)) [0,1,2]
 simp only[List.filter,h0,h1,h2]
theorem Xar:∀ b<8,(⟨(Lib.join ((Xaq b 3).map (·.data.toList)) [44]).toArray⟩:Bj)=Xim b:=by decide +kernel
theorem Xas:∀ b<8,(Lib.join ((Xaq b 3).map (·.data.toList)) [44]).length<=100:=by decide +kernel
theorem Xau:∀ b<8,(Xim b).size<=100:=by decide +kernel
theorem Q6j:∀ b<8,(!Qe0 b 0 && !Qe0 b 1 && !Qe0 b 2)=true->Xim b=⟨#[]⟩:=by decide +kernel
theorem Q6k:∀ b<8,(!Qe0 b 0 && !Qe0 b 1 && !Qe0 b 2)=false->Xaq b 3 ≠ []:=by decide +kernel
theorem Xbt (x:Bj):x++(⟨#[]⟩:Bj)=x:=by
 apply ByteArray.ext;simp
set_option maxHeartbeats 1000000 in
theorem Qto (m v:Nat) (hm:m<3) (hv:v<256) (w:World) (hg:Gl w):Cal Tryz.prog 100 [.string (nb 109 m),Vj (v:Nat)] w fun r w'=>r = .string (Qvi m (v/4 % 8))/\Ext w w':=by
 have hms:(nb 109 m).size=2:=rfl;unfold Qvi;generalize nb 109 m=mk at hms ⊢;have hq:v/4<64:=Om;refine Fi Tryz.func100 rfl _ rfl rfl (Hh ?_);intro p5 w1 hn1;refine Gg ?_;have g5:At w1 p5 278 (Q6i (v/4) 0):=hn1.At;have hx1:=hn1.ext;have n5:w.heap.size<=p5:=by rw[hn1.block];exact Zg _
 clear hn1
 refine Qh Qb (fun(k:Nat) w'=>k<=3/\Ext w w'/\At w' p5 278 (Q6i (v/4) k))
  (fun k => [(0,.string mk),(1,Vj (v:Nat)),(5,Pj p5),(10,Vj (k:Nat))]) (fun k=>3-k) 0 ⟨Om,hx1,g5⟩ Rr ?_
 clear g5 hx1;rintro k w2 ⟨hk,hx2,g5⟩;refine Hh ?_;constructor
 . intro hlt;have hlt:k<3:=(by have:(k:Int)<3:=Su hlt;omega);refine Gg ?_;refine⟨((v/4:Nat):Int),tdn (b:=4) Om (by decide),Gg ?_⟩;refine⟨((v/4/2 ^ k:Nat):Int),Xjd Om,Gg ?_⟩;refine⟨((v/4/2 ^ k % 2:Nat):Int),Xi5 _ (by have:=Nat.div_le_self (v/4) (2 ^ k);omega),Gg ?_⟩;refine⟨⟨Om,Om⟩,Gg ?_⟩;refine Qc Qb (e:=ty4) (off:=k) rfl g5 (by simp[Q8]) rfl (Nat.ble_eq_true_of_le (by show k+1<=3;omega)) Oj fun w3 g3 ho3 => ?_
   have g3:At w3 p5 278 (Q6i (v/4) (k+1)):=by
    rw[<- Q6l hlt];have e:(Value.bool (decide (((v/4/2 ^ k % 2:Nat):Int)=1)))=Value.bool (Qe0 (v/4) k):=by rw[Xe8];rfl
    rw[<- e];exact g3
   refine Gg ?_;refine⟨_,wrap_succ Om,Gg ?_⟩;exact⟨k+1,Om,⟨Om,ho3.ext hx2 n5,g3⟩,Rr⟩
 . intro hge;have hge:k=3:=(by have:¬ (k:Int)<3:=Su hge;omega);subst hge;have g5:At w2 p5 278 [.bool (Qe0 (v/4) 0),.bool (Qe0 (v/4) 1),.bool (Qe0 (v/4) 2)]:=g5;refine Gg ?_;refine⟨[.bool (Qe0 (v/4) 0),.bool (Qe0 (v/4) 1),.bool (Qe0 (v/4) 2)],⟨rfl,g5.all⟩,Gg ?_⟩;refine⟨_,Q28 _ _ _ _ _,Gg ?_⟩;obtain⟨c0,c1,c2⟩:=Xjl (v/4);have h8:v/4 % 8<8:=Om;constructor
   . intro h;have h:(!Qe0 (v/4) 0 && !Qe0 (v/4) 1 && !Qe0 (v/4) 2)=true:=h;rw[c0,c1,c2] at h;rw[Q6j _ h8 h,Xbt];refine Gg ?_;refine⟨sz2 Om (by decide),Gg ?_⟩;exact⟨rfl,hx2⟩
   . intro h;have h:(!Qe0 (v/4) 0 && !Qe0 (v/4) 1 && !Qe0 (v/4) 2)=false:=h;rw[c0,c1,c2] at h;have hne:=Q6k _ h8 h;refine Gg ?_;refine⟨[.bool (Qe0 (v/4) 0),.bool (Qe0 (v/4) 1),.bool (Qe0 (v/4) 2)],⟨rfl,g5.all⟩,Gg ?_⟩
     refine Qh Qb (fun(x:Nat×Option Addr×Nat×List Bj) w'=>x.1<=3/\x.2.2.2=Xaq (v/4) x.1/\Own Qab 1 9 w.heap.size w' x.2.1 x.2.2.1 x.2.2.2/\Ext w w')
      (fun | (k,B,d,U) => [(0,.string mk),(7,.slice B U.length d),(27,.agg #[.bool (Qe0 (v/4) 0),.bool (Qe0 (v/4) 1),.bool (Qe0 (v/4) 2)]),(28,Vj (k:Nat))]) (fun x=>3-x.1) (0,none,0,[]) ⟨by simp,rfl,Own.nil,hx2⟩ Rr ?_
     clear g5 hx2;rintro ⟨k,B,d,U⟩ w3 ⟨hk,hU,hown,hx3⟩;simp only at hk hU hown;have hUl:U.length<=k:=(by rw[hU];unfold Xaq;rw[Zf];have:=Zc (Qe0 (v/4)) (List.range k);rw[List.length_range] at this;exact this);refine Hh ?_;constructor
     . intro hlt;have hlt:k<3:=(by have:(k:Int)<3:=Su hlt;omega);have hsn:=Xat (v/4) k;rw[<- hU] at hsn;refine Gg ?_;refine⟨.bool (Qe0 (v/4) k),Qb2 Tryz.underlying278 Tryz.isAgg4 Tryz.sizeOf4 hlt (by rcases k with _ | _ | _ | k <;> first | rfl | omega),Gg ?_⟩;constructor
       . intro hb;rw[if_pos hb] at hsn;refine Gg ?_;refine(Qax 116 k Om w3 (hg.ext hx3)).mono ?_;rintro _ w4 ⟨rfl,hx4⟩;refine Gg ?_;intro b5 w5 hn5;refine Gg ?_;have hx35:=hx4.trans hn5.ext;refine Qq X7 (l:=U) (news := [nb 116 k]) rfl (hown.ext hx35) rfl (X7.new1 (x:=nb 116 k) hn5) (by simp;omega) (hx3.trans hx35).size fun A6 c6 w6 hown6 hg6 hA6 => ?_
         have hx6:=Qu (hx3.trans hx35) hg6 (Xq (hown.ext hx35));generalize U ++ [nb 116 k]=U2 at hown6 hsn ⊢;refine Gg ?_;refine⟨_,wrap_succ Om,Gg ?_⟩;exact⟨(k+1,A6,c6,U2),Sj,⟨Sj,hsn.symm,hown6,hx6⟩,Rr⟩
       . intro hb;have hb:¬ Qe0 (v/4) k=true:=by rw[hb];decide
         rw[if_neg hb,Zw] at hsn;refine Gg ?_;refine⟨_,wrap_succ Om,Gg ?_⟩;exact⟨(k+1,B,d,U),Sj,⟨Sj,hsn.symm,hown,hx3⟩,Rr⟩
     . intro hge;have hge:k=3:=(by have:¬ (k:Int)<3:=Su hge;omega);subst hge;rw[Xje] at hU;have hj:=Xar _ h8;have hjs:=Xas _ h8;rw[<- hU] at hj hjs hne;refine Gg ?_;refine⟨sz2 Om (by decide),Gg ?_⟩
       obtain⟨g,hB⟩:∃ g,B=some ⟨g,0,none⟩:=by
        rcases hown.2 with⟨h0,h1⟩ | ⟨g,cp,cur,h0,_⟩
        . exact absurd (Zba h1) hne
        . injection h0 with h0;exact⟨g,h0⟩
       subst hB;have hs:=hown.sl Qw;have hcells:∀ (j:Nat) x,U[j]? = some x->w3.cell? ⟨g,0+j,none⟩=some (.string x):=fun j x hj=>(by obtain⟨a,ha,hc⟩:=hs j x hj;injection ha with ha;subst ha;have:=Qs hc;rw[Q8] at this;rw[Zbg];simpa using this)
       have hts:=Xau _ h8;have hls:U.length<=d:=hown.le;refine(Qa9 Q8w (Tryz.strings_Join g 0 d U ⟨#[44]⟩ w3 hcells (hown.block rfl).2 Om hls ?_) (R:=fun r w'=>r = .string (Xim (v/4 % 8))/\Ext w3 w') ?_).mono ?_
       . show (Lib.join (U.map (·.data.toList)) [44]).length<=_
         omega
       . intro w' hw';exact⟨by rw[<- hj],hw'⟩
       . rintro _ w5 ⟨rfl,hx5⟩;refine Gg ?_;refine⟨sz2 (by rw[Za5];have:(⟨#[59]⟩:Bj).size=1:=rfl;omega) Om,Gg ?_⟩;exact⟨rfl,hx3.trans hx5⟩
def Qdu (kd:Int) (src p i m t:Bj) (num a:Int) (v:Nat):Ev :=
 if kd=7\/kd=9 then⟨src,num,a,kd,p,⟨#[]⟩,0,m⟩
 else if kd=11 then⟨src,num,a,kd,⟨#[]⟩,i,(v:Nat),t⟩
 else if kd=12 then⟨src,num,a,kd,⟨#[]⟩,i,(v % 3:Nat),⟨#[]⟩⟩
 else if kd=13 then⟨src,num,a,kd,⟨#[]⟩,i,0,⟨#[]⟩⟩
 else if kd=4 then⟨src,num,a,kd,p,i,(1+v % 5:Nat),⟨#[]⟩⟩
 else⟨src,num,a,kd,p,i,0,⟨#[]⟩⟩
theorem Xdr (k b1 b2 v:Nat) (num tick:Int):Qwx k b1 b2 v num tick=Qdu (kT.getD (k % 16) 0) (nb 115 (k/16 % 2)) (nb 112 (b1 % 4)) (nb 105 (b2 % 6)) (nb 109 (v % 3)) (Qvi (v % 3) (v/4 % 8)) num (max (tick-5*(k/32:Nat)) 0) v:=rfl
theorem Xi9 {w:World} (h:Q15 w) {j:Nat} (hj:j<13):w.cell? ((⟨0,0,none⟩:Addr).add ((((j:Nat):Int)).toNat*1))=some (vi (kT.getD j 0)):=by
 rw[Za4,Zbh];refine h j _ ?_;have hl:j<kT.length:=hj;rw[Zaq,Zd hl];simp[List.getD,hl]
set_option maxHeartbeats 4000000 in
theorem Xa3 (k b1 b2 v d:Nat) (num tick:Int) (hk:k % 16<13) (hk2:k<256) (hb1:b1<256) (hb2:b2<256) (hv:v<256) (ht:0<=tick/\tick<=1000000) (w:World) (hg:Gl w) (hkn:Q15 w) :
 Cal Tryz.prog 61 [.agg #[vi k,vi b1,vi b2,vi v,vi d],Vj num,Vj tick] w fun r w'=>r=evV (Qwx k b1 b2 v num tick)/\Ext w w':=by
 have hgs:=hg.size;rw[Xdr];refine Fi Tryz.func61 rfl _ rfl rfl (Hh ?_);intro p3 w1 hn1;refine Gg ?_;have g3:At w1 p3 154 [vi k,vi b1,vi b2,vi v,vi d]:=hn1.At;have e3:=hn1.block;have s1:=hn1.size;intro p6 w2 hn2;have g6:=hn2.At;have e6:=hn2.block;have s2:=hn2.size;replace g3:=g3.ext hn2.ext;have hx:=hn1.ext.trans hn2.ext;clear hn1 hn2;refine Gg ?_;refine Dr .same [0,1,2,3,4,5] [] (Hh ?_);have hxd:Ext w2 w2.drew:=(Ext.refl w2).drew;replace g3:=g3.ext hxd;replace g6:=g6.ext hxd;replace hx:=hx.trans hxd;have s3:w2.drew.heap.size=w2.heap.size:=rfl;generalize w2.drew=w3 at g3 g6 hx s3 ⊢;clear hxd;refine⟨⟨by decide,by decide⟩,Hh ?_⟩;refine⟨vi k,g3.one rfl,Hh ?_⟩;refine⟨⟨by decide,by decide⟩,Hh ?_⟩;refine⟨vi v,g3.one rfl,Gg ?_⟩;have hg3:=hg.ext hx;have hkn3:=hkn.ext hx
 refine Qiy (ι:=Nat) (fun p9 => [(3,Pj p3),(6,Pj p6),(7,Vj (k:Nat)),(8,Vj (v:Nat)),(9,Pj p9)])
  (fun p9 w'=>Ext w3 w'/\w3.heap.size<=p9/\At w' p9 77 (evC ⟨nb 115 (k/16 % 2),num,max (tick-5*((k/32:Nat):Int)) 0,kT.getD (k % 16) 0,⟨#[]⟩,⟨#[]⟩,0,⟨#[]⟩⟩)) ?_ ?_
 . refine Qfr (.mods (fun q=>w3.heap.size<=q)) (Pl.seq [0,1,2,4,5,6,7,8,9,10,11,12,13,14] (Pl.two 3 (Pl.seq [15,16,17] Pl.done) 16 (Pl.seq [3,15,17] Pl.done))) (by intro h;cases h) Qb mixed Kr (Hh ?_);have hxd:Ext w3 w3.drew:=(Ext.refl w3).drew;have sd:w3.drew.heap.size=w3.heap.size:=rfl;have hgd:=hg3.ext hxd;have hkd:=hkn3.ext hxd;generalize w3.drew=w4 at hxd sd hgd hkd ⊢;refine⟨((k/16:Nat):Int),tdn (b:=16) Om (by decide),Hh ?_⟩;refine⟨((k/16 % 2:Nat):Int),tmn (b:=2) (by decide),Hh ?_⟩;refine⟨((k/32:Nat):Int),tdn (b:=32) Om (by decide),Hh ?_⟩;refine⟨5*((k/32:Nat):Int),wrap_i64 ⟨Om,Om⟩,Hh ?_⟩;refine⟨tick-5*((k/32:Nat):Int),wrap_i64 ⟨Om,Om⟩,Hh ?_⟩;refine⟨((k % 16:Nat):Int),tmn (b:=16) (by decide),Hh ?_⟩;refine⟨⟨Om,Om⟩,Hh ?_⟩;refine⟨vi (kT.getD (k % 16) 0),⟨Xi9 hkd hk,by rw[add_block];show ¬ w3.heap.size<=0;omega⟩,Hh ?_⟩;generalize kT.getD (k % 16) 0=kd;generalize max (tick-5*((k/32:Nat):Int)) 0=a;refine⟨?_,?_⟩
   . refine(Qax 115 (k/16 % 2) Om w4 hgd).mono ?_;rintro _ w5 ⟨rfl,hx5⟩;refine⟨Mod.of_ext hx5,Hh ?_⟩;intro p9 w6 hn6;have e9:=hn6.block;have s5:=hx5.size;refine⟨Mod.of_ext hn6.ext,Hh ?_⟩;refine Qc Qb (e:=ty77) rfl hn6.At rfl rfl rfl Oj fun w7 g7 ho7 => ?_
     refine⟨Qj ho7 (by show w3.heap.size<=p9;omega),Hh ?_⟩;exact⟨p9,⟨ho7.ext ((hxd.trans hx5).trans hn6.ext) Om,Om,g7⟩,Rr⟩
   . intro p9 w6 hn6;have e9:=hn6.block;refine⟨Mod.of_ext hn6.ext,Hh ?_⟩;refine(Qax 115 (k/16 % 2) Om w6 (hgd.ext hn6.ext)).mono ?_;rintro _ w5 ⟨rfl,hx5⟩;refine⟨Mod.of_ext hx5,Hh ?_⟩;refine Qc Qb (e:=ty77) rfl (hn6.At.ext hx5) rfl rfl rfl Oj fun w7 g7 ho7 => ?_
     refine⟨Qj ho7 (by show w3.heap.size<=p9;omega),Hh ?_⟩;exact⟨p9,⟨ho7.ext ((hxd.trans hn6.ext).trans hx5) Om,Om,g7⟩,Rr⟩
 rintro p9 w4 ⟨hx4,n9,g9⟩;clear hkn3;replace g3:=g3.ext hx4;have hg4:=hg3.ext hx4;generalize kT.getD (k % 16) 0=kd at g9 ⊢;generalize max (tick-5*((k/32:Nat):Int)) 0=a at g9 ⊢;generalize nb 115 (k/16 % 2)=src at g9 ⊢;refine Gg ?_;refine Dr .ext [0,1,2,4,5,6,8,9,3,7] [10,11,12,13] (Hh ?_);have hxd:Ext w4 w4.drew:=(Ext.refl w4).drew;replace g3:=g3.ext hxd;replace g9:=g9.ext hxd;replace hx4:=hx4.trans hxd;replace hg4:=hg4.ext hxd;generalize w4.drew=w5 at g3 g9 hx4 hg4 ⊢;clear hxd;refine⟨⟨by decide,by decide⟩,Hh ?_⟩;refine⟨vi b1,g3.one rfl,Hh ?_⟩;refine⟨((b1 % 4:Nat):Int),tmn (b:=4) (by decide),Hh ?_⟩;refine⟨⟨by decide,by decide⟩,Hh ?_⟩;refine⟨vi b2,g3.one rfl,Hh ?_⟩;refine⟨((b2 % 6:Nat):Int),tmn (b:=6) (by decide),Hh ?_⟩;refine⟨((v % 3:Nat):Int),tmn (b:=3) (by decide),Hh ?_⟩;refine(Qax 112 (b1 % 4) Om w5 hg4).mono ?_;rintro _ w6 ⟨rfl,hx6⟩;refine⟨hx6,Hh ?_⟩;refine(Qax 105 (b2 % 6) Om w6 (hg4.ext hx6)).mono ?_;rintro _ w7 ⟨rfl,hx7⟩;refine⟨hx7,Hh ?_⟩;refine(Qax 109 (v % 3) Om w7 ((hg4.ext hx6).ext hx7)).mono ?_;rintro _ w8 ⟨rfl,hx8⟩;replace hx4:=((hx4.trans hx6).trans hx7).trans hx8;replace g9:=((g9.ext hx6).ext hx7).ext hx8;have hg8:=((hg4.ext hx6).ext hx7).ext hx8;clear hx6 hx7 hx8 hg4 g3;have hlist:∀ w',Gl w'->Cal Tryz.prog 100 [.string (nb 109 (v % 3)),Vj (v:Nat)] w' fun r w''=>r = .string (Qvi (v % 3) (v/4 % 8))/\Ext w' w'':=fun w' h=>Qto (v % 3) v Om hv w' h
 generalize nb 112 (b1 % 4)=p;generalize nb 105 (b2 % 6)=i;generalize nb 109 (v % 3)=m at hlist ⊢;generalize Qvi (v % 3) (v/4 % 8)=t at hlist ⊢;refine Gg ?_;refine⟨vi kd,g9.one rfl,Hh ?_⟩;have hsx:=hx.size;refine Xl Qb (ι:=Bool) (fun q => [(6,Pj p6),(8,Vj (v:Nat)),(9,Pj p9),(10,.string p),(11,.string i),(12,.string m),(45,Vj kd),(50,.bool q)]) (fun q w'=>q=decide (kd=7\/kd=9)/\w'=w8) ?_ ?_
 . (conv=>whnf)
   refine⟨fun h => ?_,fun h => ?_⟩
   . have h:kd=7:=Su h;refine Hh ?_;exact⟨_,⟨by simp[h],rfl⟩,⟨rfl,rfl,rfl,rfl,rfl,rfl,rfl,rfl,trivial⟩⟩
   have h7:¬ kd=7:=Su h;refine Hh ?_;exact⟨_,⟨by simp[h7],rfl⟩,⟨rfl,rfl,rfl,rfl,rfl,rfl,rfl,rfl,trivial⟩⟩
 rintro q w9 ⟨hq,hw⟩;replace hw:=hw.symm;subst hw hq;refine Hh ?_;refine⟨fun h => ?_,fun h => ?_⟩
 . have h:kd=7\/kd=9:=Su h;have hE:Qdu kd src p i m t num a v=⟨src,num,a,kd,p,⟨#[]⟩,0,m⟩:=by unfold Qdu;rw[if_pos h]
   refine Gg ?_;refine Qc Qb (e:=ty9) (off:=4) rfl g9 rfl rfl rfl Oj fun wa ga hoa => (Gg ?_)
   refine Qc Qb (e:=ty9) (off:=7) rfl ga rfl rfl rfl Oj fun wb gb hob => (Gg ?_)
   have gz:At wb p9 77 (evC (Qdu kd src p i m t num a v)):=by rw[hE];exact gb
   have hx9:=hob.ext (hoa.ext hx4 n9) n9;clear hE;generalize Qdu kd src p i m t num a v=e at gz ⊢;refine⟨evC e,⟨rfl,gz.all⟩,Gg ?_⟩;refine Qc Qb (e:=ty77) rfl (g6.ext hx9) rfl rfl rfl (Qbg e) fun w10 g10 ho10 => ?_
   have g10:At w10 p6 77 (evC e):=g10;refine Gg ?_;refine⟨evC e,⟨rfl,g10.all⟩,Gg ?_⟩;exact⟨rfl,ho10.ext (hx.trans hx9) Om⟩
 have h79:¬ (kd=7\/kd=9):=Su h;refine Hh ?_;refine⟨fun h => ?_,fun h => ?_⟩
 . have h:kd=11:=Su h;have hE:Qdu kd src p i m t num a v=⟨src,num,a,kd,⟨#[]⟩,i,(v:Nat),t⟩:=by unfold Qdu;rw[if_neg h79,if_pos h]
   refine Gg ?_;refine(hlist w8 hg8).mono ?_;rintro _ wl ⟨rfl,hxl⟩;refine Gg ?_;refine Qc Qb (e:=ty9) (off:=5) rfl (g9.ext hxl) rfl rfl rfl Oj fun wa ga hoa => (Gg ?_)
   refine Qc Qb (e:=ty3) (off:=6) rfl ga rfl rfl rfl Oj fun wb gb hob => (Gg ?_)
   refine Qc Qb (e:=ty9) (off:=7) rfl gb rfl rfl rfl Oj fun wc gc hoc => (Gg ?_)
   have gz:At wc p9 77 (evC (Qdu kd src p i m t num a v)):=by rw[hE];exact gc
   have hx9:=hoc.ext (hob.ext (hoa.ext (hx4.trans hxl) n9) n9) n9;clear hE;generalize Qdu kd src p i m t num a v=e at gz ⊢;refine⟨evC e,⟨rfl,gz.all⟩,Gg ?_⟩;refine Qc Qb (e:=ty77) rfl (g6.ext hx9) rfl rfl rfl (Qbg e) fun w10 g10 ho10 => ?_
   have g10:At w10 p6 77 (evC e):=g10;refine Gg ?_;refine⟨evC e,⟨rfl,g10.all⟩,Gg ?_⟩;exact⟨rfl,ho10.ext (hx.trans hx9) Om⟩
 have h11:¬ kd=11:=Su h;refine Hh ?_;refine⟨fun h => ?_,fun h => ?_⟩
 . have h:kd=12:=Su h;have hE:Qdu kd src p i m t num a v=⟨src,num,a,kd,⟨#[]⟩,i,(v % 3:Nat),⟨#[]⟩⟩:=by unfold Qdu;rw[if_neg h79,if_neg h11,if_pos h]
   refine Gg ?_;refine⟨((v % 3:Nat):Int),tmn (b:=3) (by decide),Gg ?_⟩;refine Qc Qb (e:=ty9) (off:=5) rfl g9 rfl rfl rfl Oj fun wa ga hoa => (Gg ?_)
   refine Qc Qb (e:=ty3) (off:=6) rfl ga rfl rfl rfl Oj fun wb gb hob => (Gg ?_)
   have gz:At wb p9 77 (evC (Qdu kd src p i m t num a v)):=by rw[hE];exact gb
   have hx9:=hob.ext (hoa.ext hx4 n9) n9;clear hE;generalize Qdu kd src p i m t num a v=e at gz ⊢;refine⟨evC e,⟨rfl,gz.all⟩,Gg ?_⟩;refine Qc Qb (e:=ty77) rfl (g6.ext hx9) rfl rfl rfl (Qbg e) fun w10 g10 ho10 => ?_
   have g10:At w10 p6 77 (evC e):=g10;refine Gg ?_;refine⟨evC e,⟨rfl,g10.all⟩,Gg ?_⟩;exact⟨rfl,ho10.ext (hx.trans hx9) Om⟩
 have h12:¬ kd=12:=Su h;refine Hh ?_;refine⟨fun h => ?_,fun h => ?_⟩
 . have h:kd=13:=Su h;have hE:Qdu kd src p i m t num a v=⟨src,num,a,kd,⟨#[]⟩,i,0,⟨#[]⟩⟩:=by unfold Qdu;rw[if_neg h79,if_neg h11,if_neg h12,if_pos h]
   refine Gg ?_;refine Qc Qb (e:=ty9) (off:=5) rfl g9 rfl rfl rfl Oj fun wa ga hoa => (Gg ?_)
   have gz:At wa p9 77 (evC (Qdu kd src p i m t num a v)):=by rw[hE];exact ga
   have hx9:=hoa.ext hx4 n9;clear hE;generalize Qdu kd src p i m t num a v=e at gz ⊢;refine⟨evC e,⟨rfl,gz.all⟩,Gg ?_⟩;refine Qc Qb (e:=ty77) rfl (g6.ext hx9) rfl rfl rfl (Qbg e) fun w10 g10 ho10 => ?_
   have g10:At w10 p6 77 (evC e):=g10;refine Gg ?_;refine⟨evC e,⟨rfl,g10.all⟩,Gg ?_⟩;exact⟨rfl,ho10.ext (hx.trans hx9) Om⟩
 have h13:¬ kd=13:=Su h;refine Hh ?_;refine⟨fun h => ?_,fun h => ?_⟩
 . have h:kd=4:=Su h;have hE:Qdu kd src p i m t num a v=⟨src,num,a,kd,p,i,(1+v % 5:Nat),⟨#[]⟩⟩:=by unfold Qdu;rw[if_neg h79,if_neg h11,if_neg h12,if_neg h13,if_pos h]
   refine Gg ?_;refine⟨((v % 5:Nat):Int),tmn (b:=5) (by decide),Gg ?_⟩;refine⟨((1+v % 5:Nat):Int),by rw[<- wrap_i64 ⟨Om,Om⟩];push_cast;rfl,Gg ?_⟩;refine Qc Qb (e:=ty9) (off:=4) rfl g9 rfl rfl rfl Oj fun wa ga hoa => (Gg ?_)
   refine Qc Qb (e:=ty9) (off:=5) rfl ga rfl rfl rfl Oj fun wb gb hob => (Gg ?_)
   refine Qc Qb (e:=ty3) (off:=6) rfl gb rfl rfl rfl Oj fun wc gc hoc => (Gg ?_)
   have gz:At wc p9 77 (evC (Qdu kd src p i m t num a v)):=by rw[hE];exact gc
   have hx9:=hoc.ext (hob.ext (hoa.ext hx4 n9) n9) n9;clear hE;generalize Qdu kd src p i m t num a v=e at gz ⊢;refine⟨evC e,⟨rfl,gz.all⟩,Gg ?_⟩;refine Qc Qb (e:=ty77) rfl (g6.ext hx9) rfl rfl rfl (Qbg e) fun w10 g10 ho10 => ?_
   have g10:At w10 p6 77 (evC e):=g10;refine Gg ?_;refine⟨evC e,⟨rfl,g10.all⟩,Gg ?_⟩;exact⟨rfl,ho10.ext (hx.trans hx9) Om⟩
 have h4:¬ kd=4:=Su h;have hE:Qdu kd src p i m t num a v=⟨src,num,a,kd,p,i,0,⟨#[]⟩⟩:=by unfold Qdu;rw[if_neg h79,if_neg h11,if_neg h12,if_neg h13,if_neg h4]
 refine Gg ?_;refine Qc Qb (e:=ty9) (off:=4) rfl g9 rfl rfl rfl Oj fun wa ga hoa => (Gg ?_)
 refine Qc Qb (e:=ty9) (off:=5) rfl ga rfl rfl rfl Oj fun wb gb hob => (Gg ?_)
 have gz:At wb p9 77 (evC (Qdu kd src p i m t num a v)):=by rw[hE];exact gb
 have hx9:=hob.ext (hoa.ext hx4 n9) n9;clear hE;generalize Qdu kd src p i m t num a v=e at gz ⊢;refine⟨evC e,⟨rfl,gz.all⟩,Gg ?_⟩;refine Qc Qb (e:=ty77) rfl (g6.ext hx9) rfl rfl rfl (Qbg e) fun w10 g10 ho10 => ?_
 have g10:At w10 p6 77 (evC e):=g10;refine Gg ?_;refine⟨evC e,⟨rfl,g10.all⟩,Gg ?_⟩;exact⟨rfl,ho10.ext (hx.trans hx9) Om⟩
def taC (c:Cfg) (a:Nat->Int) (every seed:Int) (A:Option Addr) (n cap:Nat) (t:Int):List Value:=Qap c a every seed ++ [.slice A n cap,vi t]
theorem Xeo:Ql9 Tryz.prog 78 84 Q45 13 144:=⟨by kernel_rfl,⟨_,ty84_ok,rfl,rfl⟩,by kernel_rfl,by decide,by decide,Q1r,Q1s⟩
theorem Xey:Tryz.prog.underlying 153=some (.map 9 3):=by kernel_rfl
structure PaH (w0:World) (n0 p1 p2 p6:Nat) (V1 V2 V6:List Value) (B:Option Addr) (d:Nat) (S:List Stp) (w:World):Prop where
 ext:Ext w0 w
 a1:At w p1 22 V1
 a2:At w p2 80 V2
 a6:At w p6 80 V6
 own:Own Q45 13 84 n0 w B d S
section
variable {w0:World} {n0 p1 p2 p6:Nat} {V1 V2 V6:List Value} {B:Option Addr} {d:Nat} {S:List Stp} {w w':World}
theorem PaH.ex (h:PaH w0 n0 p1 p2 p6 V1 V2 V6 B d S w) (hx:Ext w w'):PaH w0 n0 p1 p2 p6 V1 V2 V6 B d S w':=⟨h.ext.trans hx,h.a1.ext hx,h.a2.ext hx,h.a6.ext hx,h.own.ext hx⟩
theorem PaH.only (h:PaH w0 n0 p1 p2 p6 V1 V2 V6 B d S w) {b:Nat} (ho:Only w w' b) (h0:w0.heap.size<=b) (h1:p1≠b) (h2:p2≠b) (h6:p6≠b) (hB:∀ a,B=some a->a.block≠b):PaH w0 n0 p1 p2 p6 V1 V2 V6 B d S w' :=
 ⟨ho.ext h.ext h0,ho.at_ h.a1 h1,ho.at_ h.a2 h2,ho.at_ h.a6 h6,h.own.keep fun a ha=>ho.block _ (hB a ha)⟩
end
theorem Qmk {w w':World} {b t n0:Nat} {l:List Value} {row:Option Nat} (h:At w b t l) (hg:w.grownBy w' row) (hr:row≠some b):At w' b t l:=(hg.block b h.lt fun e=>hr e.symm).trans h
def ev0:Ev:=⟨⟨#[]⟩,0,0,0,⟨#[]⟩,⟨#[]⟩,0,⟨#[]⟩⟩
theorem Q02 {w:World} {bm:Nat} {L:List (Bj×Int)} (hm:MapAt w bm Value.string (Xj vi L)) (s:Bj):RdS Tryz.prog .same w (Instr.lookup 153 (.map (some bm)) (.string s) false) (Vj (Qmm L s)):=by
 have hl:=Xz Xey (Qo Xb) (e:=ty3) ty3_ok (cl := .same) Qp hm s;rw[show ty3.zero=vi 0 from rfl,Xo] at hl;exact hl
set_option maxHeartbeats 8000000 in
theorem Qqw (bs:List Nat) (A:Option Addr) (cp:Nat) (w:World) (hg:Gl w) (hkn:Q15 w) (hs:Sl u8C 1 w A bs) (hb:∀ x∈bs,x<256) (hl:bs.length<=300) :
 Cal Tryz.prog 19 [.slice A bs.length cp] w fun r w'=>∃ c every seed B d S L t,r = .agg (taC c (Qaq 6) every seed B S.length d t).toArray/\(Qw6 c=true/\(0<=every/\every<=3)/\(0<=seed/\seed<=255))/\Qpo S L t/\5*S.length<=bs.length/\Sl Q45 13 w' B S/\Ext w w':=by
 have hgs:=hg.size
 have hget:∀ i,bs.getD i 0<256:=fun i=>by
  by_cases h:i<bs.length
  . rw[show bs.getD i 0=bs[i] by simp[List.getD,h]];exact hb _ (Zx h)
  . rw[show bs.getD i 0=0 by simp[List.getD,Nat.not_lt.1 h]]
    decide
 refine Fi Tryz.func19 rfl _ rfl rfl (Hh ?_);intro p1 w1 hn1;refine Gg ?_;have g1:At w1 p1 22 [.slice A bs.length cp]:=hn1.At;have e1:=hn1.block;have s1:=hn1.size;intro p2 w2 hn2;have g2:At w2 p2 80 (Qg ty80.zero):=hn2.At;have e2:=hn2.block;have s2:=hn2.size;replace g1:=g1.ext hn2.ext;have hx:=hn1.ext.trans hn2.ext;clear hn1 hn2;refine Gg ?_;intro p4 w3 hn3;have g4:At w3 p4 151 (Qnu 8 (fun i=>bs.getD i 0) 0):=hn3.At;have e4:=hn3.block;have s3:=hn3.size;replace g1:=g1.ext hn3.ext;replace g2:=g2.ext hn3.ext;replace hx:=hx.trans hn3.ext;clear hn3;refine Gg ?_
 refine Qh Qb (fun(k:Nat) w'=>k<=8/\Ext w w'/\w3.heap.size<=w'.heap.size/\At w' p1 22 [.slice A bs.length cp]/\At w' p2 80 (Qg ty80.zero)/\At w' p4 151 (Qnu 8 (fun i=>bs.getD i 0) k))
  (fun k => [(1,Pj p1),(2,Pj p2),(3,.func (.func 58) #[] #[Pj p1]),(4,Pj p4),(16,Vj (k:Nat))]) (fun k=>8-k) 0 ⟨Om,hx,Zg _,g1,g2,g4⟩ Rr ?_
 clear hx g1 g2 g4;rintro k w4 ⟨hk,hx,hsz,g1,g2,g4⟩;refine Hh ?_;constructor
 . intro hlt;have hlt:k<8:=(by have:(k:Int)<8:=Su hlt;omega);refine Gg ?_;refine(Q1y p1 bs A cp w4 g1 (hs.ext hx) hb k).mono ?_;rintro _ w5 ⟨rfl,hw⟩;replace hw:=hw.symm;subst hw;refine Gg ?_;refine⟨⟨Om,Om⟩,Gg ?_⟩;refine Qq9 (f:=fun i=>bs.getD i 0) hlt g4 rfl fun w6 g6 ho6 => (Gg ?_)
   refine⟨_,wrap_succ Om,Gg ?_⟩;exact⟨k+1,Om,⟨Om,ho6.ext hx Om,by rw[ho6.size];exact hsz,ho6.at_ g1 Om,ho6.at_ g2 Om,g6⟩,Rr⟩
 intro hge;have hge:k=8:=(by have:¬ (k:Int)<8:=Su hge;omega);subst hge;have g4:At w4 p4 151 [vi (bs.getD 0 0:Nat),vi (bs.getD 1 0:Nat),vi (bs.getD 2 0:Nat),vi (bs.getD 3 0:Nat),vi (bs.getD 4 0:Nat),vi (bs.getD 5 0:Nat),vi (bs.getD 6 0:Nat),vi (bs.getD 7 0:Nat)]:=g4;refine Gg ?_;refine⟨[vi (bs.getD 0 0:Nat),vi (bs.getD 1 0:Nat),vi (bs.getD 2 0:Nat),vi (bs.getD 3 0:Nat),vi (bs.getD 4 0:Nat),vi (bs.getD 5 0:Nat),vi (bs.getD 6 0:Nat),vi (bs.getD 7 0:Nat)],⟨rfl,g4.all⟩,Gg ?_⟩;refine(Qtb (bs.getD 0 0) (bs.getD 1 0) (bs.getD 2 0) (bs.getD 3 0) (bs.getD 4 0) (bs.getD 5 0) (bs.getD 6 0) (bs.getD 7 0) (hget 0) (hget 1) (hget 2) (hget 3) (hget 4) (hget 5) (hget 6) (hget 7) w4).mono ?_;rintro _ w5 ⟨rfl,hx5⟩;have hcf:Qw6 (Xfe (bs.getD 0 0:Nat) (bs.getD 1 0:Nat) (bs.getD 2 0:Nat) (bs.getD 3 0:Nat) (bs.getD 4 0:Nat) (bs.getD 5 0:Nat))=true:=(by have q0:=hget 0;have q1:=hget 1;have q2:=hget 2;have q3:=hget 3;have q4:=hget 4;have q5:=hget 5;exact Xbw ⟨Om,Om⟩ ⟨Om,Om⟩ ⟨Om,Om⟩ ⟨Om,Om⟩ ⟨Om,Om⟩ ⟨Om,Om⟩);generalize Xfe (bs.getD 0 0:Nat) (bs.getD 1 0:Nat) (bs.getD 2 0:Nat) (bs.getD 3 0:Nat) (bs.getD 4 0:Nat) (bs.getD 5 0:Nat)=c at hcf ⊢;have hev:0<=((bs.getD 6 0 % 4:Nat):Int)/\((bs.getD 6 0 % 4:Nat):Int)<=3:=Om;have hsd:0<=((bs.getD 7 0:Nat):Int)/\((bs.getD 7 0:Nat):Int)<=255:=by have:=hget 7;omega
 generalize ((bs.getD 6 0 % 4:Nat):Int)=every at hev ⊢;generalize ((bs.getD 7 0:Nat):Int)=seed at hsd ⊢;replace g1:=g1.ext hx5;replace g2:=g2.ext hx5;replace hx:=hx.trans hx5;have z5:=hx5.size;clear hx5 g4;refine Gg ?_;intro p6 w6 hn6;refine Gg ?_;refine Qc Qb (e:=ty80) rfl hn6.At rfl rfl rfl (by simp[Qg,Qap,Value.oneCell']) fun w7 g6 ho7 => ?_
 have g6:At w7 p6 80 (taC c (Qaq 6) every seed none 0 0 1000):=g6;have e6:=hn6.block;have hx57:Ext w5 w7:=ho7.ext hn6.ext Om;have z7:=hx57.size;replace g1:=g1.ext hx57;replace g2:=g2.ext hx57;replace hx:=hx.trans hx57;clear ho7 hn6 hx57;refine Gg ?_;intro bm w8 hn8;have hm:MapAt w8 bm Value.string (Xj vi ([]:List (Bj×Int))):=MapAt.new hn8;have e8:=hn8.block;have z8:=hn8.size;have l6:=g6.lt;have hP:PaH w w8.heap.size p1 p2 p6 [.slice A bs.length cp] (Qg ty80.zero) (taC c (Qaq 6) every seed none 0 0 1000) none 0 [] w8:=⟨hx.trans hn8.ext,g1.ext hn8.ext,g2.ext hn8.ext,g6.ext hn8.ext,Own.nil⟩;clear hn8 g1 g2 g6 hx;have q1:p1<p2/\p2<p6/\p6<bm/\bm<w8.heap.size/\w.heap.size<=p1:=Om;clear e1 s1 e2 s2 e4 s3 z5 e6 z7 e8 z8 l6 hsz;refine Gg ?_
 refine Qh Qb (fun(x:List Stp×List (Bj×Int)×Option Addr×Nat×Int) w'=>5*x.1.length<=bs.length/\Qpo x.1 x.2.1 x.2.2.2.2/\MapAt w' bm Value.string (Xj vi x.2.1)/\w8.heap.size<=w'.heap.size/\PaH w w8.heap.size p1 p2 p6 [.slice A bs.length cp] (Qg ty80.zero) (taC c (Qaq 6) every seed x.2.2.1 x.1.length x.2.2.2.1 x.2.2.2.2) x.2.2.1 x.2.2.2.1 x.1 w')
  (fun | (S,L,B,d,t) => [(1,Pj p1),(2,Pj p2),(3,.func (.func 58) #[] #[Pj p1]),(6,Pj p6),(7,.map (some bm)),(8,Vj ((8+5*S.length:Nat):Int))]) (fun x=>bs.length-5*x.1.length) ([],[],none,0,1000) ⟨by simp,Xdl,hm,Zg _,hP⟩ Rr ?_
 clear hm hP;rintro ⟨S,L,B,d,t⟩ w9 ⟨hk,hT,hm,h89,hP⟩;simp only at hk hT hm hP;refine Hh ?_;refine⟨.slice A bs.length cp,hP.a1.one0,Hh ?_⟩;constructor
 . intro hlt;have hlt:8+5*S.length<bs.length:=(by have:(((8+5*S.length:Nat)):Int)<bs.length:=Su hlt;omega);have hSl:S.length<=59:=Om;have hBl:∀ a,B=some a->w8.heap.size<=a.block/\a.block<w9.heap.size:=fun a ha=>hP.own.block ha
   refine Gg ?_;intro p9 wa hna;have g9:At wa p9 154 (Qnu 5 (fun j=>bs.getD (8+5*S.length+j) 0) 0):=hna.At;have e9:=hna.block;have xa:=hna.ext;clear hna;refine Gg ?_
   refine Qh Qb (fun(j:Nat) w'=>j<=5/\Ext w9 w'/\At w' p9 154 (Qnu 5 (fun j=>bs.getD (8+5*S.length+j) 0) j))
    (fun j => [(1,Pj p1),(2,Pj p2),(3,.func (.func 58) #[] #[Pj p1]),(6,Pj p6),(7,.map (some bm)),(8,Vj ((8+5*S.length:Nat):Int)),(9,Pj p9),(35,Vj (j:Nat))]) (fun j=>5-j) 0 ⟨Om,xa,g9⟩ Rr ?_
   clear xa g9;rintro j wb ⟨hj,xb,g9⟩;refine Hh ?_;constructor
   . intro hlj;have hlj:j<5:=(by have:(j:Int)<5:=Su hlj;omega);refine Gg ?_;refine⟨((8+5*S.length+j:Nat):Int),Qa5 Om,Gg ?_⟩;refine(Q1y p1 bs A cp wb (hP.a1.ext xb) (hs.ext (hP.ext.trans xb)) hb (8+5*S.length+j)).mono ?_;rintro _ w5 ⟨rfl,hw⟩;replace hw:=hw.symm;subst hw;refine Gg ?_;refine⟨⟨Om,Om⟩,Gg ?_⟩;refine Qq9 (f:=fun j=>bs.getD (8+5*S.length+j) 0) hlj g9 rfl fun wc gc hoc => (Gg ?_)
     refine⟨_,wrap_succ Om,Gg ?_⟩;exact⟨j+1,Om,⟨Om,hoc.ext xb Om,gc⟩,Rr⟩
   intro hgj;have hgj:j=5:=(by have:¬ (j:Int)<5:=Su hgj;omega);subst hgj;have f0:=hget (8+5*S.length+0);have f1:=hget (8+5*S.length+1);have f2:=hget (8+5*S.length+2);have f3:=hget (8+5*S.length+3);have f4:=hget (8+5*S.length+4);have g9:At wb p9 154 [vi (bs.getD (8+5*S.length+0) 0:Nat),vi (bs.getD (8+5*S.length+1) 0:Nat),vi (bs.getD (8+5*S.length+2) 0:Nat),vi (bs.getD (8+5*S.length+3) 0:Nat),vi (bs.getD (8+5*S.length+4) 0:Nat)]:=g9;generalize bs.getD (8+5*S.length+0) 0=x0 at f0 g9;generalize bs.getD (8+5*S.length+1) 0=x1 at f1 g9;generalize bs.getD (8+5*S.length+2) 0=x2 at f2 g9;generalize bs.getD (8+5*S.length+3) 0=x3 at f3 g9;generalize bs.getD (8+5*S.length+4) 0=x4 at f4 g9;refine Gg ?_;refine⟨Vj t,(hP.a6.ext xb).one rfl,Gg ?_⟩;intro p11 wc hnc;refine Gg ?_;refine Qc Qb (e:=ty84) rfl hnc.At rfl rfl rfl Oj fun wd g11 hod => ?_
   have g11:At wd p11 84 (Q45 ⟨0,ev0,⟨#[]⟩,t,0,0⟩):=g11;have e11:=hnc.block;have zb:=xb.size;have xd:Ext w9 wd:=hod.ext (xb.trans hnc.ext) Om;have l9:=g9.lt;have hne:p9≠p11:=Om;replace g9:=hod.at_ (g9.ext hnc.ext) hne;clear hod hnc xb;have tick:=hT.end_;have hnm:=Xdm hT Om;refine Gg ?_;refine⟨⟨by decide,by decide⟩,Gg ?_⟩;refine⟨Vj (x3:Nat),g9.one rfl,Hh ?_⟩
   refine Xl Qb (ι:=Stp×List (Bj×Int)) (fun _ => [(1,Pj p1),(2,Pj p2),(3,.func (.func 58) #[] #[Pj p1]),(6,Pj p6),(7,.map (some bm)),(8,Vj ((8+5*S.length:Nat):Int)),(9,Pj p9),(11,Pj p11)])
    (fun y w'=>PaH w w8.heap.size p1 p2 p6 [.slice A bs.length cp] (Qg ty80.zero) (taC c (Qaq 6) every seed B S.length d t) B d S w'/\w9.heap.size<=w'.heap.size/\MapAt w' bm Value.string (Xj vi y.2)/\At w' p9 154 [vi (x0:Nat),vi (x1:Nat),vi (x2:Nat),vi (x3:Nat),vi (x4:Nat)]/\At w' p11 84 (Q45 y.1)/\∀ δ:Int,0<=δ/\δ<=15->Qpo (S ++ [y.1]) y.2 (t+δ)) ?_ ?_
   . -- one of the kinds of steps
     have oth:∀ (s:Stp) (w':World),Ext w9 w'->At w' p9 154 [vi (x0:Nat),vi (x1:Nat),vi (x2:Nat),vi (x3:Nat),vi (x4:Nat)]->At w' p11 84 (Q45 s)->s.what≠0 ->
      (PaH w w8.heap.size p1 p2 p6 [.slice A bs.length cp] (Qg ty80.zero) (taC c (Qaq 6) every seed B S.length d t) B d S w'/\w9.heap.size<=w'.heap.size/\MapAt w' bm Value.string (Xj vi L)/\At w' p9 154 [vi (x0:Nat),vi (x1:Nat),vi (x2:Nat),vi (x3:Nat),vi (x4:Nat)]/\At w' p11 84 (Q45 s)/\∀ δ:Int,0<=δ/\δ<=15->Qpo (S ++ [s]) L (t+δ)) :=
      fun s w' hxw h9 h11 hw=>⟨hP.ex hxw,hxw.size,hm.ext hxw,h9,h11,fun δ hδ=>Q5c hT hw hδ⟩
     refine Gg ?_;refine⟨⟨by decide,by decide⟩,Gg ?_⟩;refine⟨Vj (x0:Nat),g9.one rfl,Gg ?_⟩;refine⟨((x0 % 16:Nat):Int),tmn (b:=16) (by decide),Gg ?_⟩;refine⟨fun h => ?_,fun h => ?_⟩
     . refine Gg ?_;refine Qc Qb (e:=ty82) (off:=0) rfl g11 rfl rfl rfl Oj fun we ge hoe => (Gg ?_)
       refine Qc Qb (e:=ty3) (off:=12) rfl ge rfl rfl rfl Oj fun wf gf hof => (Gg ?_)
       exact⟨(⟨1,ev0,⟨#[]⟩,t,0,(x3:Nat)⟩,L),oth _ _ (hof.ext (hoe.ext xd Om) Om) (hof.at_ (hoe.at_ g9 hne) hne) gf (show (1:Int)≠0 by decide),Rr⟩
     have h13:¬ x0 % 16=13:=(by have:¬ ((x0 % 16:Nat):Int)=13:=Su h;omega);refine Gg ?_;refine⟨((x3 % 2:Nat):Int),fun _=>tmn (b:=2) (by decide),Gg ?_⟩;refine⟨fun h => ?_,fun h => ?_⟩
     . refine Gg ?_;refine Qc Qb (e:=ty82) (off:=0) rfl g11 rfl rfl rfl Oj fun we ge hoe => (Gg ?_)
       refine Qc Qb (e:=ty3) (off:=11) rfl ge rfl rfl rfl Oj fun wf gf hof => (Gg ?_)
       exact⟨(⟨2,ev0,⟨#[]⟩,t,(x3:Nat),0⟩,L),oth _ _ (hof.ext (hoe.ext xd Om) Om) (hof.at_ (hoe.at_ g9 hne) hne) gf (show (2:Int)≠0 by decide),Rr⟩
     refine Gg ?_;refine⟨fun h => ?_,fun h => ?_⟩
     . refine Gg ?_;refine Qc Qb (e:=ty82) (off:=0) rfl g11 rfl rfl rfl Oj fun we ge hoe => (Gg ?_)
       exact⟨(⟨3,ev0,⟨#[]⟩,t,0,0⟩,L),oth _ _ (hoe.ext xd Om) (hoe.at_ g9 hne) ge (show (3:Int)≠0 by decide),Rr⟩
     have h14:¬ x0 % 16=14:=(by have:¬ ((x0 % 16:Nat):Int)=14:=Su h;omega);refine Gg ?_;refine⟨fun h => ?_,fun h => ?_⟩
     . refine Gg ?_;refine⟨⟨by decide,by decide⟩,Gg ?_⟩;refine⟨Vj (x1:Nat),g9.one rfl,Gg ?_⟩;refine⟨((x1 % 4:Nat):Int),tmn (b:=4) (by decide),Gg ?_⟩;refine(Qax 112 (x1 % 4) Om wd ((hg.ext hP.ext).ext xd)).mono ?_;rintro _ wn ⟨rfl,hxn⟩;refine Gg ?_;refine Qc Qb (e:=ty82) (off:=0) rfl (g11.ext hxn) rfl rfl rfl Oj fun we ge hoe => (Gg ?_)
       refine Qc Qb (e:=ty9) (off:=9) rfl ge rfl rfl rfl Oj fun wf gf hof => (Gg ?_)
       exact⟨(⟨4,ev0,nb 112 (x1 % 4),t,0,0⟩,L),oth _ _ (hof.ext (hoe.ext (xd.trans hxn) Om) Om) (hof.at_ (hoe.at_ (g9.ext hxn) hne) hne) gf (show (4:Int)≠0 by decide),Rr⟩
     have h15:¬ x0 % 16=15:=(by have:¬ ((x0 % 16:Nat):Int)=15:=Su h;omega);have hk13:x0 % 16<13:=Om;clear oth;refine Gg ?_;refine⟨⟨by decide,by decide⟩,Gg ?_⟩;refine⟨Vj (x0:Nat),g9.one rfl,Gg ?_⟩;refine⟨((x0/16:Nat):Int),tdn (b:=16) Om (by decide),Gg ?_⟩;refine⟨((x0/16 % 2:Nat):Int),tmn (b:=2) (by decide),Gg ?_⟩;refine(Qax 115 (x0/16 % 2) Om wd ((hg.ext hP.ext).ext xd)).mono ?_;rintro _ wn ⟨rfl,hxn⟩;have hsm:=Xds (b1:=x1) (b2:=x2) hk13 f3 (hnm (nb 115 (x0/16 % 2)) |> fun h=>⟨h.1,h.2.1⟩) ⟨(hnm ⟨#[]⟩).2.2.1,(hnm ⟨#[]⟩).2.2.2⟩;have hmn:=hm.ext (xd.trans hxn);have hPn:=hP.ex (xd.trans hxn);replace g9:=g9.ext hxn;replace g11:=g11.ext hxn;have zn:=(xd.trans hxn).size;have hcn:=hnm (nb 115 (x0/16 % 2));clear hm hxn xd;refine Gg ?_;refine⟨_,Q02 hmn _,Gg ?_⟩;refine⟨Qmm L (nb 115 (x0/16 % 2))+1,wrap_i64 ⟨Om,Om⟩,Gg ?_⟩;refine Qx Xey (Qo Xb) hmn (nb 115 (x0/16 % 2)) (vi (Qmm L (nb 115 (x0/16 % 2))+1)) fun wo hmo hoo => ?_
     rw[Xa] at hmo;replace hPn:=hPn.only hoo Om Om Om Om (fun a ha=>by have:=(hBl a ha).1;omega);replace g9:=hoo.at_ g9 Om;replace g11:=hoo.at_ g11 Om;rw[<- hoo.size] at zn;clear hoo hmn;refine Gg ?_;refine⟨[vi (x0:Nat),vi (x1:Nat),vi (x2:Nat),vi (x3:Nat),vi (x4:Nat)],⟨rfl,g9.all⟩,Gg ?_⟩;have hlk:=Q02 hmo (nb 115 (x0/16 % 2));rw[show Qmm (Xc L (nb 115 (x0/16 % 2)) (Qmm L (nb 115 (x0/16 % 2))+1)) (nb 115 (x0/16 % 2))=Qmm L (nb 115 (x0/16 % 2))+1 by unfold Qmm;rw[Q9];rfl] at hlk;refine⟨_,hlk,Gg ?_⟩;refine⟨Vj t,hPn.a6.one rfl,Gg ?_⟩;refine(Xa3 x0 x1 x2 x3 x4 (Qmm L (nb 115 (x0/16 % 2))+1) t hk13 f0 f1 f2 f3 ⟨hcn.2.2.1,hcn.2.2.2⟩ wo (hg.ext hPn.ext) (hkn.ext hPn.ext)).mono ?_;rintro _ wt ⟨rfl,hxt⟩;generalize Qwx x0 x1 x2 x3 (Qmm L (nb 115 (x0/16 % 2))+1) t=e at hsm ⊢;replace hPn:=hPn.ex hxt;replace g9:=g9.ext hxt;replace g11:=g11.ext hxt;replace hmo:=hmo.ext hxt;replace zn:=Zv zn hxt.size;clear hlk hxt;refine Gg ?_;refine Qc Qb (e:=ty82) (off:=0) rfl g11 rfl rfl rfl Oj fun we ge hoe => (Gg ?_)
     refine Qc Qb (e:=ty77) (off:=1) rfl ge rfl rfl rfl (Qbg e) fun wf gf hof => (Gg ?_)
     have hBn:∀ a,B=some a->a.block≠p11:=fun a ha=>by have:=(hBl a ha).2;omega
     refine⟨(⟨0,e,⟨#[]⟩,t,0,0⟩,Xc L (nb 115 (x0/16 % 2)) (Qmm L (nb 115 (x0/16 % 2))+1)),⟨(hPn.only hoe Om Om Om Om hBn).only hof Om Om Om Om hBn,by rw[hof.size,hoe.size];exact zn,(hmo.only hoe Om).only hof Om,hof.at_ (hoe.at_ g9 hne) hne,gf,fun δ hδ => ?_⟩,Rr⟩
     have:=Xa0 hT (s:=⟨0,e,⟨#[]⟩,t,0,0⟩) rfl hδ hsm.1 hsm.2.1 (by rw[hsm.2.2.2,hsm.2.2.1]) (by
      rw[show (⟨0,e,⟨#[]⟩,t,0,0⟩:Stp).ev.src=nb 115 (x0/16 % 2) from hsm.2.2.1];rcases (show x0/16 % 2=0\/x0/16 % 2=1 by omega) with h | h
      . exact .inl (by rw[h])
      . exact .inr (by rw[h]))
     rw[show (⟨0,e,⟨#[]⟩,t,0,0⟩:Stp).ev.src=nb 115 (x0/16 % 2) from hsm.2.2.1] at this;exact this
   rintro ⟨s,L'⟩ we ⟨hP,z9,hm,g9,g11,hTI⟩;simp only at hm g11 hTI;clear hT hnm;refine Gg ?_;refine⟨.slice B S.length d,hP.a6.one rfl,Gg ?_⟩;refine⟨Q45 s,⟨rfl,g11.all⟩,Gg ?_⟩;intro pb wb2 hnb;refine Gg ?_;have hPb:=hP.ex hnb.ext;have zb2:=hnb.ext.size;refine Qq Xeo (l:=S) (news := [s]) rfl hPb.own rfl (Xeo.new1 (x:=s) hnb) (by simp;omega) Om fun A7 c7 w7 hown7 hg7 hA7 => ?_
   have hr:∀ q,(q<w8.heap.size\/w9.heap.size<=q)->B.map (·.block)≠some q:=fun q hq e=>by
    cases B with
    | none=>simp at e
    | some a =>
      have:=hBl a rfl;simp at e;omega
   have x7:Ext w w7:=Qu hPb.ext hg7 (fun k hk=>by have:=Xq hPb.own k hk;omega);have a1:=Qmk (n0:=0) hPb.a1 hg7 (hr _ Om);have a2:=Qmk (n0:=0) hPb.a2 hg7 (hr _ Om);have a6:=Qmk (n0:=0) hPb.a6 hg7 (hr _ Om);have a9:=Qmk (n0:=0) (g9.ext hnb.ext) hg7 (hr _ Om);have hmb:=(hm.ext hnb.ext).keep (hg7.block bm (hm.ext hnb.ext).lt fun e=>hr bm Om e.symm);have hTI4:=hTI ((x4 % 16:Nat):Int) ⟨Om,Om⟩;have hl2:(S ++ [s]).length=S.length+1:=by simp
   have z7:=hg7.size;clear hP hPb hnb g9 g11 hm hTI hg7;generalize S ++ [s]=S2 at hown7 hTI4 hl2 ⊢;refine Gg ?_;refine Qc Qb (e:=ty78) (off:=22) rfl a6 rfl rfl rfl Oj fun wg gg hog => ?_
   have gg:At wg p6 80 (taC c (Qaq 6) every seed A7 S2.length c7 t):=gg;refine Gg ?_;refine⟨Vj t,gg.one rfl,Gg ?_⟩;refine⟨⟨by decide,by decide⟩,Gg ?_⟩;refine⟨Vj (x4:Nat),(hog.at_ a9 Om).one rfl,Gg ?_⟩;refine⟨((x4 % 16:Nat):Int),tmn (b:=16) (by decide),Gg ?_⟩;refine⟨t+((x4 % 16:Nat):Int),wrap_i64 ⟨Om,Om⟩,Gg ?_⟩;refine Qc Qb (e:=ty3) (off:=23) rfl gg rfl rfl rfl Oj fun wh gh hoh => ?_
   have gh:At wh p6 80 (taC c (Qaq 6) every seed A7 S2.length c7 (t+((x4 % 16:Nat):Int))):=gh;refine Gg ?_;have z8:((8+5*S2.length:Nat):Int)=IntKind.i64.wrap (((8+5*S.length:Nat):Int)+5):=(by rw[<- wrap_i64 ⟨Om,Om⟩];omega);refine⟨((8+5*S2.length:Nat):Int),z8,Gg ?_⟩;have hAb:∀ a,A7=some a->a.block≠p6:=fun a ha=>by have:=(hown7.block ha).1;omega
   refine⟨(S2,L',A7,c7,t+((x4 % 16:Nat):Int)),Sj,⟨Sj,hTI4,(hmb.only hog Om).only hoh Om,by rw[hoh.size,hog.size];omega,⟨hoh.ext (hog.ext x7 Om) Om,hoh.at_ (hog.at_ a1 Om) Om,hoh.at_ (hog.at_ a2 Om) Om,gh,(hown7.keep fun a ha=>hog.block _ (hAb a ha)).keep fun a ha=>hoh.block _ (hAb a ha)⟩⟩,Rr⟩
 . intro _;have hn2:w.heap.size<=p2:=Om;refine Gg ?_;refine⟨taC c (Qaq 6) every seed B S.length d t,⟨rfl,hP.a6.all⟩,Gg ?_⟩;refine Qc Qb (e:=ty80) rfl hP.a2 rfl rfl rfl (by simp[Qg,taC,Qap,Value.oneCell']) fun wf gf hof => ?_
   have gf:At wf p2 80 (taC c (Qaq 6) every seed B S.length d t):=gf;refine Gg ?_;refine⟨taC c (Qaq 6) every seed B S.length d t,⟨rfl,gf.all⟩,Gg ?_⟩;exact⟨c,every,seed,B,d,S,L,t,rfl,⟨hcf,hev,hsd⟩,hT,hk,(hP.own.keep fun a ha=>hof.block _ (by have:=(hP.own.block ha).1;omega)).sl Q1r,hof.ext hP.ext hn2⟩
theorem Q5h (S:List Stp) (k:Nat) (hk:k<S.length):Qd4 (S.take (k+1))=Qd4 (S.take k)++if S[k].what=0 then [S[k].ev] else []:=by
 rw[Qc3 S k hk,Qla]
set_option maxHeartbeats 2000000 in
theorem Qnc (bs:List Nat) (A:Option Addr) (cp:Nat) (w:World) (hg:Gl w) (hkn:Q15 w) (hs:Sl u8C 1 w A bs) (hb:∀ x∈bs,x<256) :
 Cal Tryz.prog 5 [.slice A bs.length cp] w fun r w'=>Ext w w'/\(r = .tuple #[.slice none 0 0,ty32.zero,Vj 0,.bool false] \/
  ∃ c every seed B d l t,r = .tuple #[.slice B l.length d,.agg (Qap c (Qaq 6) every seed).toArray,Vj t,.bool true]/\(Qw6 c=true/\(0<=every/\every<=3)/\(0<=seed/\seed<=255))/\(Q50 l/\∀ e∈l,e.src=nb 115 0\/e.src=nb 115 1)/\l.length<=60/\(0<=t/\t<=1000000)/\SlE w' B l):=by
 refine Fi Tryz.func5 rfl _ rfl rfl (Hh ?_);intro p3 w1 hn1;refine Gg ?_;have g3:At w1 p3 32 (Qg ty32.zero):=hn1.At;have hx:=hn1.ext;have e3:=hn1.block;have s1:=hn1.size;clear hn1;constructor
 . intro h;refine Gg ?_;refine Qc Qb (e:=ty32) rfl g3 rfl rfl rfl Oj fun w2 g2 ho2 => ?_
   have g2:At w2 p3 32 (Qg ty32.zero):=g2;refine Gg ?_;refine⟨Qg ty32.zero,⟨rfl,g2.all⟩,Gg ?_⟩;exact⟨ho2.ext hx Om,.inl rfl⟩
 intro h;have hl:bs.length<=300:=(by have:¬ (300:Int)<bs.length:=Su h;omega);refine Gg ?_;refine(Qqw bs A cp w1 (hg.ext hx) (hkn.ext hx) (hs.ext hx) hb hl).mono ?_;rintro _ w2 ⟨c,every,seed,B,d,S,L,t,rfl,hcf,hT,hk,hsS,hx2⟩;refine Gg ?_;intro p6 w3 hn3;refine Gg ?_;refine Qc Qb (e:=ty80) rfl hn3.At rfl rfl rfl (by simp[Qg,taC,Qap,Value.oneCell']) fun w4 g6 ho4 => ?_
 have g6:At w4 p6 80 (taC c (Qaq 6) every seed B S.length d t):=g6;have e6:=hn3.block;have hx24:Ext w2 w4:=ho4.ext hn3.ext Om;have s2:=hx2.size;replace hx:=(hx.trans hx2).trans hx24;replace g3:=(g3.ext hx2).ext hx24;replace hsS:=hsS.ext hx24;clear ho4 hn3 hx2 hx24;refine Gg ?_;refine⟨.slice B S.length d,g6.one rfl,Gg ?_⟩
 refine Qh Qb (fun(q:Nat×Option Addr×Nat×List Ev) w'=>q.1<=S.length/\q.2.2.2=Qd4 (S.take q.1)/\Own evC 8 77 w4.heap.size w' q.2.1 q.2.2.1 q.2.2.2/\Ext w4 w')
  (fun | (k,B',d',U) => [(3,Pj p3),(6,Pj p6),(7,.slice B' U.length d'),(17,.slice B S.length d),(18,Vj S.length),(19,Vj (k:Nat))]) (fun q=>S.length-q.1) (0,none,0,[]) ⟨Zu _,rfl,Own.nil,Ext.refl _⟩ Rr ?_
 rintro ⟨k,B',d',U⟩ w5 ⟨hkl,hU,hown,hx5⟩;simp only at hkl hU hown;have hUl:U.length<=k:=(by rw[hU];have:=Xa2 (S.take k);rw[Zn] at this;omega);refine Hh ?_;constructor
 . intro hlt;have hlt:k<S.length:=Su hlt;obtain⟨a,rfl,hc⟩:=(hsS.ext hx5).get hlt;have htk:=Q5h S k hlt;rw[<- hU] at htk;generalize S[k]=x at hc htk;refine Gg ?_;refine⟨a,Ix,Gg ?_⟩;refine⟨Q45 x,⟨rfl,hc⟩,Gg ?_⟩;intro p9 w6 hn6;refine Gg ?_;refine Qc Qb (e:=ty84) rfl hn6.At rfl rfl rfl (Q1s x) fun w7 g9 ho7 => ?_
   have g9:At w7 p9 84 (Q45 x):=g9;have hx57:Ext w5 w7:=ho7.ext hn6.ext (by rw[hn6.block];exact Zg _);clear ho7 hn6;replace hx5:=hx5.trans hx57;replace hown:=hown.ext hx57;refine Gg ?_;refine⟨vi x.what,g9.one rfl,Gg ?_⟩;constructor
   . intro hq;have hq:x.what=0:=Su hq;rw[if_pos hq] at htk;refine Gg ?_;refine⟨evC x.ev,⟨rfl,At.sub (pre := [vi x.what]) (post := [.string x.person,vi x.now,vi x.keep,vi x.of_]) g9⟩,Gg ?_⟩;intro b8 w8 hn8;refine Gg ?_;refine Qq Qk2 (l:=U) (news := [x.ev]) rfl (hown.ext hn8.ext) rfl (Qk2.new1 (x:=x.ev) hn8) (by simp;omega) (hx5.trans hn8.ext).size fun A9 c9 w9 hown9 hg9 hA9 => ?_
     have hx9:=Qu (hx5.trans hn8.ext) hg9 (Xq (hown.ext hn8.ext));generalize U ++ [x.ev]=U2 at hown9 htk ⊢;refine Gg ?_;refine⟨_,wrap_succ Om,Gg ?_⟩;exact⟨(k+1,A9,c9,U2),Sj,⟨Sj,htk.symm,hown9,hx9⟩,Rr⟩
   . intro hq;have hq:¬ x.what=0:=Su hq;rw[if_neg hq,Zw] at htk;refine Gg ?_;refine⟨_,wrap_succ Om,Gg ?_⟩;exact⟨(k+1,B',d',U),Sj,⟨Sj,htk.symm,hown,hx5⟩,Rr⟩
 . intro hge;have hge:S.length<=k:=Su hge;rw[Zb hge] at hU;have hap:Q50 (Qd4 S)/\∀ e∈Qd4 S,e.src=nb 115 0\/e.src=nb 115 1:=⟨hT.ap,hT.src⟩;rw[<- hU] at hap;have hte:=hT.end_;have hne:p6≠p3:=Om;have hp3:w.heap.size<=p3:=Om;have hown3:∀ a,B'=some a->a.block≠p3:=fun a ha=>by have:=(hown.block ha).1;have:=g3.lt;omega
   replace g3:=g3.ext hx5;replace g6:=g6.ext hx5;replace hx:=hx.trans hx5;clear hsS hx5;refine Gg ?_;refine Dr (.mods (fun q=>q=p3)) [0,1,2,3,4,5,6,7,8] [] (Hh ?_);have hxd:Ext w5 w5.drew:=(Ext.refl w5).drew;replace g3:=g3.ext hxd;replace g6:=g6.ext hxd;replace hx:=hx.trans hxd;replace hown:=hown.ext hxd;generalize w5.drew=w6 at g3 g6 hx hown ⊢;refine⟨Qap c (Qaq 6) every seed,⟨rfl,At.sub (pre := []) (post := [.slice B S.length d,vi t]) g6,by rw[add_block];exact hne⟩,Hh ?_⟩;refine⟨vi t,⟨g6.one rfl,by rw[add_block];exact hne⟩,Hh ?_⟩;refine Qc Qb (e:=ty32) rfl g3 rfl rfl rfl (by simp[Qg,Qap,Value.oneCell']) fun w7 g7 ho7 => ?_
   have g7:At w7 p3 32 (Qap c (Qaq 6) every seed):=g7;refine⟨Qj ho7 rfl,Gg ?_⟩;refine⟨Qap c (Qaq 6) every seed,⟨rfl,g7.all⟩,Gg ?_⟩;refine⟨ho7.ext hx hp3,.inr ⟨c,every,seed,B',d',U,t,rfl,hcf,hap,Om,⟨Om,Om⟩,?_⟩⟩;exact(hown.keep fun a ha=>ho7.block _ (hown3 a ha)).sl Qag
theorem Qc9 (w:World) (hg:Gl w) (hkn:Q15 w):Cal Tryz.prog 6 [] w fun r w'=>r = .bool true/\Ext w w':=by
 refine Fi Tryz.func6 rfl _ rfl rfl (Hh ?_);refine(Qqw [] none 0 w hg hkn Sl.nil (by simp) (by simp)).mono ?_;rintro _ w2 ⟨c,every,seed,B,d,S,L,t,rfl,hcf,hT,hk,hsS,hx2⟩;have h0:S = []:=Zba (by simp at hk;omega);have ht:t=1000:=(by have:=hT.end_;rw[h0] at this;simp at this;omega);subst ht;refine Gg ?_;exact⟨rfl,hx2⟩
def Xh9:List Bj := [⟨#[112,48]⟩,⟨#[112,49]⟩,⟨#[112,50]⟩,⟨#[112,51]⟩]
theorem Qos (w:World):Cal Tryz.prog 7 [] w fun r w'=>r = .slice (some ⟨w.heap.size,0,none⟩) 4 4/\At w' w.heap.size 9 (Xh9.map Value.string)/\Ext w w':=by
 refine Fi Tryz.func7 rfl _ rfl rfl (Hh ?_);intro b w1 hn1;refine Gg ?_;obtain rfl:=hn1.block;exact⟨rfl,hn1.At,hn1.ext⟩
theorem Q8c {w:World} {b t:Nat} {l:List Bj} (h:At w b t (l.map Value.string)) {k:Nat} {x:Bj} (hk:l[k]? = some x):w.cell? ((⟨b,0,none⟩:Addr).add (k*1))=some (.string x):=by
 rw[Q8,Zbh,h.cell,Zaq,hk];rfl
