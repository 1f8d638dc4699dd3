/- Several texts in one: To4, To5, To6, To7, To8. -/
import Derived.Test.YtopncieoolkhjaaGreatDoorGV
import Derived.Test.YtopncieoolkhjaaGreatDoorGI
import Derived.Test.YtopncieoolkhjaaGreatDoorGC
import Derived.ChangeKeysEq
set_option linter.unusedVariables false
set_option linter.unusedSimpArgs false
namespace Go.Proofs.YtopncieoolkhjaaGreatDoor
open Go.Se Go.RowKit
def u8C (q:Nat) : List Value := [.int .u8 (q:Nat)]
def Qva (w:World) : Prop := Xk w ⟨0,0,none⟩ (kT.map vi)
theorem Qva.ext {w w':World} (h:Qva w) (hx:Ext w w') : Qva w' := hx.cells h
theorem tdn {a b:Nat} (ha:a < 1000000000) (hb:b ≠ 0) : ((b:Nat) : Int) ≠ 0 ∧ ((a / b : Nat) : Int) = IntKind.i64.wrap ((a:Int).tdiv (b:Int)) := by
 refine ⟨by omega,?_⟩
 have h := Nat.div_le_self a b
 have e : (a:Int).tdiv (b:Int) = ((a / b : Nat) : Int) := by
  rw [Int.tdiv_eq_ediv_of_nonneg (by omega)]
  exact (Int.natCast_ediv a b).symm
 rw [e]
 generalize a / b = q at h ⊢
 exact wrap_i64 ⟨by omega,by omega⟩
theorem tmn {a b:Nat} (hb:b ≠ 0) : ((b:Nat) : Int) ≠ 0 ∧ ((a % b : Nat) : Int) = (a:Int).tmod (b:Int) := by
 refine ⟨by omega,?_⟩
 rw [Int.tmod_eq_emod_of_nonneg (by omega)]
 exact Int.natCast_emod a b
theorem Qu2 (b1:Nat) (bs:List Nat) (A:Option Addr) (c:Nat) (w:World) (h1:At w b1 22 [.slice A bs.length c]) (hs:Sl u8C 1 w A bs) (hb:∀ x ∈ bs,x < 256) (i:Nat) :
 Cal Tryz.prog 91 [.int .i64 (i:Nat),.pointer (some ⟨b1,0,none⟩)] w fun r w' => r = .int .i64 ((bs.getD i 0 : Nat) : Int) ∧ w' = w := by
 refine Fi Tryz.func91 rfl _ rfl rfl ?_;conv=>whnf
 refine ⟨.slice A bs.length c,h1.one0,?_⟩; (conv=>whnf);repeat(refine Sg ?_;(conv=>whnf))
 constructor
 · intro hlt
   have hlt : i < bs.length := by simpa using hlt
   obtain ⟨a,rfl,hc⟩ := hs.get hlt
   have hx := hb _ (List.getElem_mem hlt)
   have hgd : bs.getD i 0 = bs[i] := by simp [List.getD,hlt]
   rw [hgd]
   generalize bs[i] = x at hc hx
   (conv=>whnf);repeat(refine Sg ?_;(conv=>whnf))
   refine ⟨.slice (some a) bs.length c,h1.one0,?_⟩; (conv=>whnf);repeat(refine Sg ?_;(conv=>whnf))
   refine ⟨a,⟨rfl,by omega,by omega⟩,?_⟩; (conv=>whnf);repeat(refine Sg ?_;(conv=>whnf))
   refine ⟨.int .u8 (x:Nat),Xb hc,?_⟩; (conv=>whnf);repeat(refine Sg ?_;(conv=>whnf))
   refine ⟨(x:Nat),wrap_i64 ⟨by omega,by omega⟩,?_⟩; (conv=>whnf);repeat(refine Sg ?_;(conv=>whnf))
   exact ⟨rfl,rfl⟩
 · intro hge
   have hge : bs.length ≤ i := by simpa using hge
   rw [show bs.getD i 0 = 0 by simp [List.getD,hge]]
   (conv=>whnf);repeat(refine Sg ?_;(conv=>whnf))
   exact ⟨rfl,rfl⟩
theorem Q7q : ∀ n < 10,Qtx n = ⟨#[UInt8.ofNat (48 + n)]⟩ := by decide +kernel
theorem X7 (ch n:Nat) (hn:n < 10) (w:World) (hg:Gl w) : Cal Tryz.prog 93 [.string ⟨#[UInt8.ofNat ch]⟩,.int .i64 (n:Nat)] w fun r w' => r = .string (nb ch n) ∧ Ext w w' := by
 refine Fi Tryz.func93 rfl _ rfl rfl ?_;conv=>whnf
 refine (Qhe n w hg (by omega) (by omega)).mono ?_
 rintro _ w2 ⟨rfl,hx⟩
 rw [Int.toNat_natCast,Q7q n hn]
 (conv=>whnf);repeat(refine Sg ?_;(conv=>whnf))
 refine ⟨sz2 (show 1 ≤ 1000000000 by decide) (show 1 ≤ 1000000000 by decide),?_⟩; (conv=>whnf);repeat(refine Sg ?_;(conv=>whnf))
 exact ⟨rfl,hx⟩
theorem Q44 {L:List Value} {k:Nat} {v:Value} (hk:k < L.length) : spl L k [v] = L.set k v := by
 unfold spl
 rw [List.set_eq_take_append_cons_drop,if_pos hk]
 simp
def Qj7 (n:Nat) (f:Nat → Nat) (k:Nat) : List Value := (List.range n).map fun j => vi (if j < k then (f j:Nat) else 0)
theorem Qpi (n:Nat) (f:Nat → Nat) (k:Nat) : (Qj7 n f k).length = n := by simp [Qj7]
theorem Qye {n:Nat} (f:Nat → Nat) {k:Nat} (hk:k < n) : (Qj7 n f k).set k (vi (f k:Nat)) = Qj7 n f (k + 1) := by
 unfold Qj7
 apply List.ext_getElem?
 intro i
 rw [List.getElem?_set]
 by_cases h : k = i
 · subst h
   simp [hk]
 · rw [if_neg h]
   by_cases hi : i < n
   · simp only [List.getElem?_map,List.getElem?_range hi,Option.map_some]
     have : (i < k + 1) ↔ (i < k) := by omega
     simp only [this]
   · simp [hi]
theorem Qmw {n:Nat} {f:Nat → Nat} {k:Nat} (hk:k < n) {w:World} {b tb:Nat} (h:At w b tb (Qj7 n f k)) {x:Int} (hx:x = (f k:Nat)) {R:Value → World → Prop}
 (hR:∀ w',At w' b tb (Qj7 n f (k + 1)) → Only w w' b → R undef w') : Qrc Tryz.prog (Instr.storeAt 3 (.pointer (some ((⟨b,0,none⟩ : Addr).add (k * 1)))) (.int .i64 x)) w R := by
 rw [Qx,Nat.mul_one]
 subst hx
 refine Qhw Qa (e := ty3) rfl h rfl (by rw [Qpi]; show k + 1 ≤ n; omega) (by simp [Qg,Value.oneCell']) fun w' h' ho => hR w' ?_ ho
 have e : Qg (.int .i64 ((f k:Nat) : Int)) = [vi (f k:Nat)] := rfl
 rw [e,Q44 (by rw [Qpi]; exact hk),Qye f hk] at h'
 exact h'
def Qbv (k:Nat) (i:Nat) : Int := if i < k then 100 else 0
theorem Qz6 (c:Cfg) (every seed:Int) {k:Nat} (hk:k < 6) : spl (Qah c (Qbv k) every seed) (6 + k) [vi 100] = Qah c (Qbv (k + 1)) every seed := by
 rcases k with _ | _ | _ | _ | _ | _ | k
 · rfl
 · rfl
 · rfl
 · rfl
 · rfl
 · rfl
 · omega
theorem Q2m (c:Cfg) (a:Nat → Int) (every seed:Int) : (Qah c a every seed).length = 22 := rfl
theorem Q1l (b0 b1 b2 b3 b4 b5:Nat) : Q38 b0 b1 b2 b3 b4 b5 = ⟨((1 + 10 * b0 : Nat) : Int),((1 + b1 % 20 : Nat) : Int),((1 + b2 % 50 : Nat) : Int),(((1 + b1 % 20) * (1 + b3 % 4) : Nat) : Int),((b4 % 3 : Nat) : Int),((b5 % 3 : Nat) : Int)⟩ := by
 unfold Q38
 have e1 : (b1:Int).tmod 20 = ((b1 % 20 : Nat) : Int) := (tmn (b := 20) (by decide)).2.symm
 have e2 : (b2:Int).tmod 50 = ((b2 % 50 : Nat) : Int) := (tmn (b := 50) (by decide)).2.symm
 have e3 : (b3:Int).tmod 4 = ((b3 % 4 : Nat) : Int) := (tmn (b := 4) (by decide)).2.symm
 have e4 : (b4:Int).tmod 3 = ((b4 % 3 : Nat) : Int) := (tmn (b := 3) (by decide)).2.symm
 have e5 : (b5:Int).tmod 3 = ((b5 % 3 : Nat) : Int) := (tmn (b := 3) (by decide)).2.symm
 rw [e1,e2,e3,e4,e5]
 push_cast
 rfl
set_option maxHeartbeats 1000000 in
theorem Qod (b0 b1 b2 b3 b4 b5 b6 b7:Nat) (h0:b0 < 256) (h1:b1 < 256) (h2:b2 < 256) (h3:b3 < 256) (h4:b4 < 256) (h5:b5 < 256) (h6:b6 < 256) (h7:b7 < 256) (w:World) :
 Cal Tryz.prog 92 [.agg #[vi b0,vi b1,vi b2,vi b3,vi b4,vi b5,vi b6,vi b7]] w fun r w' => r = .agg (Qah (Q38 b0 b1 b2 b3 b4 b5) (Qbv 6) ((b6 % 4 : Nat) : Int) (b7:Nat)).toArray ∧ Ext w w' := by
 rw [Q1l]
 refine Fi Tryz.func92 rfl _ rfl rfl ?_;conv=>whnf
 intro p1 w1 hn1; (conv=>whnf);repeat(refine Sg ?_;(conv=>whnf))
 have g1 : At w1 p1 203 [vi b0,vi b1,vi b2,vi b3,vi b4,vi b5,vi b6,vi b7] := hn1.At
 intro p2 w2 hn2; (conv=>whnf);repeat(refine Sg ?_;(conv=>whnf))
 have g2 : At w2 p2 32 (Qah ⟨0,0,0,0,0,0⟩ (Qbv 0) 0 0) ∨ True := .inr trivial
 replace g2 := hn2.At
 replace g1 := g1.ext hn2.ext
 have hx2 := hn1.ext.trans hn2.ext
 have e2 := hn2.block
 have s1 := hn1.size
 clear hn1 hn2
 refine ⟨⟨by omega,by omega⟩,?_⟩; (conv=>whnf);repeat(refine Sg ?_;(conv=>whnf))
 refine ⟨vi b1,g1.one rfl,?_⟩; (conv=>whnf);repeat(refine Sg ?_;(conv=>whnf))
 refine ⟨((b1 % 20 : Nat) : Int),tmn (b := 20) (by decide),?_⟩; (conv=>whnf);repeat(refine Sg ?_;(conv=>whnf))
 refine ⟨((1 + b1 % 20 : Nat) : Int),by rw [← wrap_i64 ⟨by omega,by omega⟩]; push_cast; rfl,?_⟩; (conv=>whnf);repeat(refine Sg ?_;(conv=>whnf))
 refine ⟨⟨by omega,by omega⟩,?_⟩; (conv=>whnf);repeat(refine Sg ?_;(conv=>whnf))
 refine ⟨vi b0,g1.one rfl,?_⟩; (conv=>whnf);repeat(refine Sg ?_;(conv=>whnf))
 refine ⟨((10 * b0 : Nat) : Int),by rw [← wrap_i64 ⟨by omega,by omega⟩]; push_cast; rfl,?_⟩; (conv=>whnf);repeat(refine Sg ?_;(conv=>whnf))
 refine ⟨((1 + 10 * b0 : Nat) : Int),by rw [← wrap_i64 ⟨by omega,by omega⟩]; push_cast; rfl,?_⟩; (conv=>whnf);repeat(refine Sg ?_;(conv=>whnf))
 refine ⟨⟨by omega,by omega⟩,?_⟩; (conv=>whnf);repeat(refine Sg ?_;(conv=>whnf))
 refine ⟨vi b2,g1.one rfl,?_⟩; (conv=>whnf);repeat(refine Sg ?_;(conv=>whnf))
 refine ⟨((b2 % 50 : Nat) : Int),tmn (b := 50) (by decide),?_⟩; (conv=>whnf);repeat(refine Sg ?_;(conv=>whnf))
 refine ⟨((1 + b2 % 50 : Nat) : Int),by rw [← wrap_i64 ⟨by omega,by omega⟩]; push_cast; rfl,?_⟩; (conv=>whnf);repeat(refine Sg ?_;(conv=>whnf))
 refine ⟨⟨by omega,by omega⟩,?_⟩; (conv=>whnf);repeat(refine Sg ?_;(conv=>whnf))
 refine ⟨vi b3,g1.one rfl,?_⟩; (conv=>whnf);repeat(refine Sg ?_;(conv=>whnf))
 refine ⟨((b3 % 4 : Nat) : Int),tmn (b := 4) (by decide),?_⟩; (conv=>whnf);repeat(refine Sg ?_;(conv=>whnf))
 refine ⟨((1 + b3 % 4 : Nat) : Int),by rw [← wrap_i64 ⟨by omega,by omega⟩]; push_cast; rfl,?_⟩; (conv=>whnf);repeat(refine Sg ?_;(conv=>whnf))
 have hsp : (1 + b1 % 20) * (1 + b3 % 4) ≤ 80 := Nat.mul_le_mul (show 1 + b1 % 20 ≤ 20 by omega) (show 1 + b3 % 4 ≤ 4 by omega)
 refine ⟨(((1 + b1 % 20) * (1 + b3 % 4) : Nat) : Int),by rw [← Int.natCast_mul]; exact wrap_i64 ⟨by omega,by omega⟩,?_⟩; (conv=>whnf);repeat(refine Sg ?_;(conv=>whnf))
 generalize (1 + b1 % 20) * (1 + b3 % 4) = sp at hsp ⊢
 refine ⟨⟨by omega,by omega⟩,?_⟩; (conv=>whnf);repeat(refine Sg ?_;(conv=>whnf))
 refine ⟨vi b4,g1.one rfl,?_⟩; (conv=>whnf);repeat(refine Sg ?_;(conv=>whnf))
 refine ⟨((b4 % 3 : Nat) : Int),tmn (b := 3) (by decide),?_⟩; (conv=>whnf);repeat(refine Sg ?_;(conv=>whnf))
 refine ⟨⟨by omega,by omega⟩,?_⟩; (conv=>whnf);repeat(refine Sg ?_;(conv=>whnf))
 refine ⟨vi b5,g1.one rfl,?_⟩; (conv=>whnf);repeat(refine Sg ?_;(conv=>whnf))
 refine ⟨((b5 % 3 : Nat) : Int),tmn (b := 3) (by decide),?_⟩; (conv=>whnf);repeat(refine Sg ?_;(conv=>whnf))
 refine ⟨⟨by omega,by omega⟩,?_⟩; (conv=>whnf);repeat(refine Sg ?_;(conv=>whnf))
 refine ⟨vi b6,g1.one rfl,?_⟩; (conv=>whnf);repeat(refine Sg ?_;(conv=>whnf))
 refine ⟨((b6 % 4 : Nat) : Int),tmn (b := 4) (by decide),?_⟩; (conv=>whnf);repeat(refine Sg ?_;(conv=>whnf))
 refine ⟨⟨by omega,by omega⟩,?_⟩; (conv=>whnf);repeat(refine Sg ?_;(conv=>whnf))
 refine ⟨vi b7,g1.one rfl,?_⟩; (conv=>whnf);repeat(refine Sg ?_;(conv=>whnf))
 refine ⟨((b7:Nat) : Int),wrap_u64 ⟨by omega,by omega⟩,?_⟩; (conv=>whnf);repeat(refine Sg ?_;(conv=>whnf))
 intro p4 w4 hn4; (conv=>whnf);repeat(refine Sg ?_;(conv=>whnf))
 refine Qc Qa (e := ty32) rfl hn4.At rfl rfl rfl (by simp [Qg,Value.oneCell']) fun w5 g5 ho5 => ?_
 generalize hc : (⟨((1 + 10 * b0 : Nat) : Int),((1 + b1 % 20 : Nat) : Int),((1 + b2 % 50 : Nat) : Int),(sp:Int),((b4 % 3 : Nat) : Int),((b5 % 3 : Nat) : Int)⟩ : Cfg) = c
 have g5 : At w5 p4 32 (Qah c (Qbv 0) ((b6 % 4 : Nat) : Int) (b7:Nat)) := by rw [← hc]; exact g5
 have e4 := hn4.block
 have hx5 : Ext w2 w5 := ho5.ext hn4.ext (by omega)
 have l2 := g2.lt
 replace g2 := g2.ext hx5
 replace hx2 := hx2.trans hx5
 clear ho5 hn4 hx5 g1
 have l4 := g5.lt
 have n42 : p4 ≠ p2 := by omega
 have n4 : w.heap.size ≤ p4 ∧ w.heap.size ≤ p2 := by have := hx2.size; omega
 clear hc
 refine Qj Qa (fun (k:Nat) w' => k ≤ 6 ∧ Ext w w' ∧ At w' p2 32 (Qg ty32.zero) ∧ At w' p4 32 (Qah c (Qbv k) ((b6 % 4 : Nat) : Int) (b7:Nat)))
  (fun k => [(2,.pointer (some ⟨p2,0,none⟩)),(4,.pointer (some ⟨p4,0,none⟩)),(40,.int .i64 (k:Nat))]) (fun k => 6 - k) 0 ⟨by omega,hx2,g2,g5⟩ ⟨rfl,rfl,rfl,trivial⟩ ?_
 clear g2 g5 hx2
 rintro k w6 ⟨hk,hx6,g2,g4⟩
 conv=>whnf
 constructor
 · intro hlt
   have hlt : k < 6 := by
    have : (k:Int) < 6 := by simpa using hlt
    omega
   (conv=>whnf);repeat(refine Sg ?_;(conv=>whnf))
   refine ⟨⟨by omega,by omega⟩,?_⟩; (conv=>whnf);repeat(refine Sg ?_;(conv=>whnf))
   refine Qc Qa (e := ty3) (off := 6 + k) rfl g4 (by simp [Xd,Qx,Qow]) rfl (Nat.ble_eq_true_of_le (by rw [Q2m]; show 6 + k + 1 ≤ 22; omega)) (by simp [Qg,Value.oneCell']) fun w7 g7 ho7 => ?_
   have g7 : At w7 p4 32 (Qah c (Qbv (k + 1)) ((b6 % 4 : Nat) : Int) (b7:Nat)) := by rw [← Qz6 _ _ _ hlt]; exact g7
   (conv=>whnf);repeat(refine Sg ?_;(conv=>whnf))
   refine ⟨_,wrap_succ (by omega),?_⟩; (conv=>whnf);repeat(refine Sg ?_;(conv=>whnf))
   exact ⟨k + 1,by omega,⟨by omega,ho7.ext hx6 n4.1,ho7.at_ g2 (fun e => n42 e.symm),g7⟩,⟨rfl,rfl,rfl,trivial⟩⟩
 · intro hge
   have hge : k = 6 := by
    have : ¬ (k:Int) < 6 := by simpa using hge
    omega
   subst hge
   (conv=>whnf);repeat(refine Sg ?_;(conv=>whnf))
   refine ⟨Qah c (Qbv 6) ((b6 % 4 : Nat) : Int) (b7:Nat),⟨rfl,g4.all⟩,?_⟩; (conv=>whnf);repeat(refine Sg ?_;(conv=>whnf))
   refine Qc Qa (e := ty32) rfl g2 rfl rfl rfl (by simp [Qg,Qah,Value.oneCell']) fun w8 g8 ho8 => ?_
   have g8 : At w8 p2 32 (Qah c (Qbv 6) ((b6 % 4 : Nat) : Int) (b7:Nat)) := g8
   (conv=>whnf);repeat(refine Sg ?_;(conv=>whnf))
   refine ⟨Qah c (Qbv 6) ((b6 % 4 : Nat) : Int) (b7:Nat),⟨rfl,g8.all⟩,?_⟩; (conv=>whnf);repeat(refine Sg ?_;(conv=>whnf))
   exact ⟨rfl,ho8.ext hx6 n4.2⟩
def Qdp (q j:Nat) : Bool := decide (q / 2 ^ j % 2 = 1)
def Qx0 (q k:Nat) : List Value := [.bool (decide (0 < k) && Qdp q 0),.bool (decide (1 < k) && Qdp q 1),.bool (decide (2 < k) && Qdp q 2)]
theorem Qx3 {q k:Nat} (hk:k < 3) : spl (Qx0 q k) k [.bool (Qdp q k)] = Qx0 q (k + 1) := by
 rcases k with _ | _ | _ | k
 · rfl
 · rfl
 · rfl
 · omega
theorem Q7d {q k:Nat} (hk:k < 64) : (0:Int) ≤ (k:Nat) ∧ ((q / 2 ^ k : Nat) : Int) = (q:Int).fdiv (2 ^ (min ((k:Nat) : Int).toNat IntKind.i64.bits)) := by
 refine ⟨by omega,?_⟩
 have : min ((k:Nat) : Int).toNat IntKind.i64.bits = k := by
  rw [Int.toNat_natCast]
  show min k 64 = k
  omega
 have e : (2:Int) ^ k = ((2 ^ k : Nat) : Int) := by push_cast; rfl
 rw [this,e,Int.fdiv_eq_ediv_of_nonneg _ (Int.natCast_nonneg _)]
 exact Int.natCast_ediv _ _
theorem Q63 : ∀ a < 64,((a % 2 : Nat) : Int) = IntKind.i64.wrap ((BitVec.ofInt IntKind.i64.bits ((a:Nat) : Int) &&& BitVec.ofInt IntKind.i64.bits 1).toNat : Nat) := by decide +kernel
theorem Q36 (x:Nat) : decide (((x % 2 : Nat) : Int) = 1) = decide (x % 2 = 1) := by
 rw [Bool.eq_iff_iff,decide_eq_true_iff,decide_eq_true_iff]
 omega
theorem Qvt (a b c:Bool) (ox oy:Operand) : Qu9 Tryz.prog 302 ox oy (.agg #[.bool a,.bool b,.bool c]) (.agg #[.bool false,.bool false,.bool false]) (!a && !b && !c) := by
 have hu : Tryz.prog.underlying 302 = some (.array 3 4) := by kernel_rfl
 have hb : Tryz.prog.underlying 4 = some .bool := by kernel_rfl
 have hc : Tryz.prog.cellsOf 4 = 1 := by kernel_rfl
 intro w
 have h1 := run_eqGuard_agg (P := Tryz.prog) w .eql 302 ox oy #[.bool a,.bool b,.bool c] #[.bool false,.bool false,.bool false] (by kernel_rfl)
 have h2 := run_eqGuard_agg (P := Tryz.prog) w .neq 302 ox oy #[.bool a,.bool b,.bool c] #[.bool false,.bool false,.bool false] (by kernel_rfl)
 have h3 := run_eql_struct (P := Tryz.prog) w 302 #[.bool a,.bool b,.bool c] #[.bool false,.bool false,.bool false]
 have h4 := run_neq_struct (P := Tryz.prog) w 302 #[.bool a,.bool b,.bool c] #[.bool false,.bool false,.bool false]
 have h5 : (Op.equalIn 10000 302 (.agg #[.bool a,.bool b,.bool c]) (.agg #[.bool false,.bool false,.bool false])).run Tryz.prog w = .ok (!a && !b && !c) w := by
  obtain ⟨i,hi⟩ : ∃ i,Tryz.prog.info? 4 = some i := by
   obtain ⟨i,d,hi,_⟩ := Xc ty4_ok
   exact ⟨i,hi⟩
  rw [run_equalIn_array w 9999 _ _ hu hi,hc]
  have hp : ∀ (xs:Array Value) (k:Nat) (x:Bool),xs[k]? = some (.bool x) → (part 4 xs k).run Tryz.prog w = .ok (.bool x) w := fun xs k x hx => by
   have : (isAgg 4).run Tryz.prog w = .ok false w := by
    unfold isAgg
    simp only [Sem.run_bind,run_underlying hb,Result.andThen_ok]
    rfl
   simp [part,this,hx]
  have hr : List.range 3 = [0,1,2] := rfl
  rw [hr]
  have q := fun (x:Bool) => run_equalIn_bool' (P := Tryz.prog) w 9998 4 x false hb
  simp only [Op.eqItems,Sem.run_bind,Nat.mul_one]
  rw [hp #[.bool a,.bool b,.bool c] 0 a rfl]
  simp only [Result.andThen_ok]
  rw [hp #[.bool false,.bool false,.bool false] 0 false rfl]
  simp only [Result.andThen_ok]
  rw [q a]
  simp only [Result.andThen_ok]
  cases a
  case true => simp
  simp only [show (false == false) = true from rfl,Bool.not_true,Bool.false_eq_true,↓reduceIte,Sem.run_bind]
  rw [hp #[.bool false,.bool b,.bool c] 1 b rfl]
  simp only [Result.andThen_ok]
  rw [hp #[.bool false,.bool false,.bool false] 1 false rfl]
  simp only [Result.andThen_ok]
  rw [q b]
  simp only [Result.andThen_ok]
  cases b
  case true => simp
  simp only [show (false == false) = true from rfl,Bool.not_true,Bool.false_eq_true,↓reduceIte,Sem.run_bind]
  rw [hp #[.bool false,.bool false,.bool c] 2 c rfl]
  simp only [Result.andThen_ok]
  rw [hp #[.bool false,.bool false,.bool false] 2 false rfl]
  simp only [Result.andThen_ok]
  rw [q c]
  simp only [Result.andThen_ok]
  cases c <;> simp
 rw [h5] at h3 h4
 constructor
 · simp only [Sem.run_bind,h1,Result.andThen_ok,h3]
 · simp only [Sem.run_bind,h2,Result.andThen_ok,h4]
def Q0l (q k:Nat) : List ByteArray := ((List.range k).filter (Qdp q)).map (nb 116)
theorem Q0o (q k:Nat) : Q0l q (k + 1) = Q0l q k ++ if Qdp q k = true then [nb 116 k] else [] := by
 unfold Q0l
 rw [List.range_succ,List.filter_append,List.map_append]
 congr 1
 by_cases h : Qdp q k = true
 · simp [h]
 · simp [h]
theorem Q7i (q:Nat) : Qdp q 0 = Qdp (q % 8) 0 ∧ Qdp q 1 = Qdp (q % 8) 1 ∧ Qdp q 2 = Qdp (q % 8) 2 := by
 unfold Qdp
 have h0 : q / 2 ^ 0 % 2 = q % 8 / 2 ^ 0 % 2 := by simp only [Nat.pow_zero,Nat.div_one]; omega
 have h1 : q / 2 ^ 1 % 2 = q % 8 / 2 ^ 1 % 2 := by simp only [Nat.pow_one]; omega
 have h2 : q / 2 ^ 2 % 2 = q % 8 / 2 ^ 2 % 2 := by simp only [show 2 ^ 2 = 4 from rfl]; omega
 rw [h0,h1,h2]
 exact ⟨rfl,rfl,rfl⟩
theorem Q7e (q:Nat) : Q0l q 3 = Q0l (q % 8) 3 := by
 obtain ⟨h0,h1,h2⟩ := Q7i q
 unfold Q0l
 congr 1
 show List.filter (Qdp q) [0,1,2] = List.filter (Qdp (q % 8)) [0,1,2]
 simp only [List.filter,h0,h1,h2]
theorem Q0m : ∀ b < 8,(⟨(Lib.join ((Q0l b 3).map (·.data.toList)) [44]).toArray⟩ : ByteArray) = Q6n b := by decide +kernel
theorem Q0n : ∀ b < 8,(Lib.join ((Q0l b 3).map (·.data.toList)) [44]).length ≤ 100 := by decide +kernel
theorem Q0p : ∀ b < 8,(Q6n b).size ≤ 100 := by decide +kernel
theorem Qx1 : ∀ b < 8,(!Qdp b 0 && !Qdp b 1 && !Qdp b 2) = true → Q6n b = ⟨#[]⟩ := by decide +kernel
theorem Qx2 : ∀ b < 8,(!Qdp b 0 && !Qdp b 1 && !Qdp b 2) = false → Q0l b 3 ≠ [] := by decide +kernel
theorem Q1g (x:ByteArray) : x ++ (⟨#[]⟩ : ByteArray) = x := by
 apply ByteArray.ext
 simp
set_option maxHeartbeats 1000000 in
theorem Qoo (m v:Nat) (hm:m < 3) (hv:v < 256) (w:World) (hg:Gl w) : Cal Tryz.prog 150 [.string (nb 109 m),.int .i64 (v:Nat)] w fun r w' => r = .string (Qpy m (v / 4 % 8)) ∧ Ext w w' := by
 have hms : (nb 109 m).size = 2 := rfl
 unfold Qpy
 generalize nb 109 m = mk at hms ⊢
 have hq : v / 4 < 64 := by omega
 refine Fi Tryz.func150 rfl _ rfl rfl ?_;conv=>whnf
 intro p5 w1 hn1; (conv=>whnf);repeat(refine Sg ?_;(conv=>whnf))
 have g5 : At w1 p5 302 (Qx0 (v / 4) 0) := hn1.At
 have hx1 := hn1.ext
 have n5 : w.heap.size ≤ p5 := by rw [hn1.block]; exact Nat.le_refl _
 clear hn1
 refine Qj Qa (fun (k:Nat) w' => k ≤ 3 ∧ Ext w w' ∧ At w' p5 302 (Qx0 (v / 4) k))
  (fun k => [(0,.string mk),(1,.int .i64 (v:Nat)),(5,.pointer (some ⟨p5,0,none⟩)),(10,.int .i64 (k:Nat))]) (fun k => 3 - k) 0 ⟨by omega,hx1,g5⟩ ⟨rfl,rfl,rfl,rfl,trivial⟩ ?_
 clear g5 hx1
 rintro k w2 ⟨hk,hx2,g5⟩
 conv=>whnf
 constructor
 · intro hlt
   have hlt : k < 3 := by
    have : (k:Int) < 3 := by simpa using hlt
    omega
   (conv=>whnf);repeat(refine Sg ?_;(conv=>whnf))
   refine ⟨((v / 4 : Nat) : Int),tdn (b := 4) (by omega) (by decide),?_⟩; (conv=>whnf);repeat(refine Sg ?_;(conv=>whnf))
   refine ⟨((v / 4 / 2 ^ k : Nat) : Int),Q7d (by omega),?_⟩; (conv=>whnf);repeat(refine Sg ?_;(conv=>whnf))
   refine ⟨((v / 4 / 2 ^ k % 2 : Nat) : Int),Q63 _ (by have := Nat.div_le_self (v / 4) (2 ^ k); omega),?_⟩; (conv=>whnf);repeat(refine Sg ?_;(conv=>whnf))
   refine ⟨⟨by omega,by omega⟩,?_⟩; (conv=>whnf);repeat(refine Sg ?_;(conv=>whnf))
   refine Qc Qa (e := ty4) (off := k) rfl g5 (by simp [Qx]) rfl (Nat.ble_eq_true_of_le (by show k + 1 ≤ 3; omega)) (by simp [Qg,Value.oneCell']) fun w3 g3 ho3 => ?_
   have g3 : At w3 p5 302 (Qx0 (v / 4) (k + 1)) := by
    rw [← Qx3 hlt]
    have e : (Value.bool (decide (((v / 4 / 2 ^ k % 2 : Nat) : Int) = 1))) = Value.bool (Qdp (v / 4) k) := by rw [Q36]; rfl
    rw [← e]
    exact g3
   (conv=>whnf);repeat(refine Sg ?_;(conv=>whnf))
   refine ⟨_,wrap_succ (by omega),?_⟩; (conv=>whnf);repeat(refine Sg ?_;(conv=>whnf))
   exact ⟨k + 1,by omega,⟨by omega,ho3.ext hx2 n5,g3⟩,⟨rfl,rfl,rfl,rfl,trivial⟩⟩
 · intro hge
   have hge : k = 3 := by
    have : ¬ (k:Int) < 3 := by simpa using hge
    omega
   subst hge
   have g5 : At w2 p5 302 [.bool (Qdp (v / 4) 0),.bool (Qdp (v / 4) 1),.bool (Qdp (v / 4) 2)] := g5
   (conv=>whnf);repeat(refine Sg ?_;(conv=>whnf))
   refine ⟨[.bool (Qdp (v / 4) 0),.bool (Qdp (v / 4) 1),.bool (Qdp (v / 4) 2)],⟨rfl,g5.all⟩,?_⟩; (conv=>whnf);repeat(refine Sg ?_;(conv=>whnf))
   refine ⟨_,Qvt _ _ _ _ _,?_⟩; (conv=>whnf);repeat(refine Sg ?_;(conv=>whnf))
   obtain ⟨c0,c1,c2⟩ := Q7i (v / 4)
   have h8 : v / 4 % 8 < 8 := by omega
   constructor
   · intro h
     have h : (!Qdp (v / 4) 0 && !Qdp (v / 4) 1 && !Qdp (v / 4) 2) = true := h
     rw [c0,c1,c2] at h
     rw [Qx1 _ h8 h,Q1g]
     (conv=>whnf);repeat(refine Sg ?_;(conv=>whnf))
     refine ⟨sz2 (by omega) (by decide),?_⟩; (conv=>whnf);repeat(refine Sg ?_;(conv=>whnf))
     exact ⟨rfl,hx2⟩
   · intro h
     have h : (!Qdp (v / 4) 0 && !Qdp (v / 4) 1 && !Qdp (v / 4) 2) = false := h
     rw [c0,c1,c2] at h
     have hne := Qx2 _ h8 h
     (conv=>whnf);repeat(refine Sg ?_;(conv=>whnf))
     refine ⟨[.bool (Qdp (v / 4) 0),.bool (Qdp (v / 4) 1),.bool (Qdp (v / 4) 2)],⟨rfl,g5.all⟩,?_⟩; (conv=>whnf);repeat(refine Sg ?_;(conv=>whnf))
     refine Qj Qa (fun (x:Nat × Option Addr × Nat × List ByteArray) w' => x.1 ≤ 3 ∧ x.2.2.2 = Q0l (v / 4) x.1 ∧ Own Qd3 1 9 w.heap.size w' x.2.1 x.2.2.1 x.2.2.2 ∧ Ext w w')
      (fun | (k,B,d,U) => [(0,.string mk),(7,.slice B U.length d),(27,.agg #[.bool (Qdp (v / 4) 0),.bool (Qdp (v / 4) 1),.bool (Qdp (v / 4) 2)]),(28,.int .i64 (k:Nat))]) (fun x => 3 - x.1) (0,none,0,[]) ⟨by simp,rfl,Own.nil,hx2⟩ ⟨rfl,rfl,rfl,rfl,trivial⟩ ?_
     clear g5 hx2
     rintro ⟨k,B,d,U⟩ w3 ⟨hk,hU,hown,hx3⟩
     simp only at hk hU hown
     have hUl : U.length ≤ k := by
      rw [hU]; unfold Q0l
      rw [List.length_map]
      have := List.length_filter_le (Qdp (v / 4)) (List.range k)
      rw [List.length_range] at this
      exact this
     conv=>whnf
     constructor
     · intro hlt
       have hlt : k < 3 := by
        have : (k:Int) < 3 := by simpa using hlt
        omega
       have hsn := Q0o (v / 4) k
       rw [← hU] at hsn
       (conv=>whnf);repeat(refine Sg ?_;(conv=>whnf))
       refine ⟨.bool (Qdp (v / 4) k),Qh5 Tryz.underlying302 Tryz.isAgg4 Tryz.sizeOf4 hlt (by rcases k with _ | _ | _ | k <;> first | rfl | omega),?_⟩; (conv=>whnf);repeat(refine Sg ?_;(conv=>whnf))
       constructor
       · intro hb
         rw [if_pos hb] at hsn
         (conv=>whnf);repeat(refine Sg ?_;(conv=>whnf))
         refine (X7 116 k (by omega) w3 (hg.ext hx3)).mono ?_
         rintro _ w4 ⟨rfl,hx4⟩; (conv=>whnf);repeat(refine Sg ?_;(conv=>whnf))
         intro b5 w5 hn5; (conv=>whnf);repeat(refine Sg ?_;(conv=>whnf))
         have hx35 := hx4.trans hn5.ext
         refine X4 Qur (l := U) (news := [nb 116 k]) rfl (hown.ext hx35) rfl (Qur.new1 (x := nb 116 k) hn5) (by simp; omega) (hx3.trans hx35).size fun A6 c6 w6 hown6 hg6 hA6 => ?_
         have hx6 := Xo (hx3.trans hx35) hg6 (Qdu (hown.ext hx35))
         generalize U ++ [nb 116 k] = U2 at hown6 hsn ⊢
         (conv=>whnf);repeat(refine Sg ?_;(conv=>whnf))
         refine ⟨_,wrap_succ (by omega),?_⟩; (conv=>whnf);repeat(refine Sg ?_;(conv=>whnf))
         exact ⟨(k + 1,A6,c6,U2),by simp only; omega,⟨by simp only; omega,hsn.symm,hown6,hx6⟩,⟨rfl,rfl,rfl,rfl,trivial⟩⟩
       · intro hb
         have hb : ¬ Qdp (v / 4) k = true := by rw [hb]; decide
         rw [if_neg hb,List.append_nil] at hsn
         (conv=>whnf);repeat(refine Sg ?_;(conv=>whnf))
         refine ⟨_,wrap_succ (by omega),?_⟩; (conv=>whnf);repeat(refine Sg ?_;(conv=>whnf))
         exact ⟨(k + 1,B,d,U),by simp only; omega,⟨by simp only; omega,hsn.symm,hown,hx3⟩,⟨rfl,rfl,rfl,rfl,trivial⟩⟩
     · intro hge
       have hge : k = 3 := by
        have : ¬ (k:Int) < 3 := by simpa using hge
        omega
       subst hge
       rw [Q7e] at hU
       have hj := Q0m _ h8
       have hjs := Q0n _ h8
       rw [← hU] at hj hjs hne
       (conv=>whnf);repeat(refine Sg ?_;(conv=>whnf))
       refine ⟨sz2 (by omega) (by decide),?_⟩; (conv=>whnf);repeat(refine Sg ?_;(conv=>whnf))
       obtain ⟨g,hB⟩ : ∃ g,B = some ⟨g,0,none⟩ := by
        rcases hown.2 with ⟨h0,h1⟩ | ⟨g,cp,cur,h0,_⟩
        · exact absurd (List.eq_nil_of_length_eq_zero h1) hne
        · injection h0 with h0; exact ⟨g,h0⟩
       subst hB
       have hs := hown.sl Qav
       have hcells : ∀ (j:Nat) x,U[j]? = some x → w3.cell? ⟨g,0 + j,none⟩ = some (.string x) := fun j x hj => by
        obtain ⟨a,ha,hc⟩ := hs j x hj
        injection ha with ha
        subst ha
        have := Xb hc
        rw [Qx] at this
        rw [Nat.zero_add]
        simpa using this
       have hts := Q0p _ h8
       have hls : U.length ≤ d := hown.le
       refine (Qbq Qzd (Tryz.strings_Join g 0 d U ⟨#[44]⟩ w3 hcells (hown.block rfl).2 (by omega) hls ?_) (R := fun r w' => r = .string (Q6n (v / 4 % 8)) ∧ Ext w3 w') ?_).mono ?_
       · show (Lib.join (U.map (·.data.toList)) [44]).length ≤ _
         omega
       · intro w' hw'
         exact ⟨by rw [← hj],hw'⟩
       · rintro _ w5 ⟨rfl,hx5⟩; (conv=>whnf);repeat(refine Sg ?_;(conv=>whnf))
         refine ⟨sz2 (by rw [ByteArray.size_append]; have : (⟨#[59]⟩ : ByteArray).size = 1 := rfl; omega) (by omega),?_⟩; (conv=>whnf);repeat(refine Sg ?_;(conv=>whnf))
         exact ⟨rfl,hx3.trans hx5⟩
def Qcr (kd:Int) (src p i m t:ByteArray) (num a:Int) (v:Nat) : Ev :=
 if kd = 7 ∨ kd = 9 then ⟨src,num,a,kd,p,⟨#[]⟩,0,m⟩
 else if kd = 11 then ⟨src,num,a,kd,⟨#[]⟩,i,(v:Nat),t⟩
 else if kd = 12 then ⟨src,num,a,kd,⟨#[]⟩,i,(v % 3 : Nat),⟨#[]⟩⟩
 else if kd = 13 then ⟨src,num,a,kd,⟨#[]⟩,i,0,⟨#[]⟩⟩
 else if kd = 4 then ⟨src,num,a,kd,p,i,(1 + v % 5 : Nat),⟨#[]⟩⟩
 else ⟨src,num,a,kd,p,i,0,⟨#[]⟩⟩
theorem Q2v (k b1 b2 v:Nat) (num tick:Int) : Qqx k b1 b2 v num tick = Qcr (kT.getD (k % 16) 0) (nb 115 (k / 16 % 2)) (nb 112 (b1 % 4)) (nb 105 (b2 % 6)) (nb 109 (v % 3)) (Qpy (v % 3) (v / 4 % 8)) num (max (tick - 5 * (k / 32 : Nat)) 0) v := rfl
theorem Q66 {w:World} (h:Qva w) {j:Nat} (hj:j < 13) : w.cell? ((⟨0,0,none⟩ : Addr).add ((((j:Nat) : Int)).toNat * 1)) = some (vi (kT.getD j 0)) := by
 rw [Int.toNat_natCast,Nat.mul_one]
 refine h j _ ?_
 have hl : j < kT.length := hj
 rw [List.getElem?_map,List.getElem?_eq_getElem hl]
 simp [List.getD,hl]
set_option maxHeartbeats 4000000 in
theorem Q0w (k b1 b2 v d:Nat) (num tick:Int) (hk:k % 16 < 13) (hk2:k < 256) (hb1:b1 < 256) (hb2:b2 < 256) (hv:v < 256) (ht:0 ≤ tick ∧ tick ≤ 1000000) (w:World) (hg:Gl w) (hkn:Qva w) :
 Cal Tryz.prog 94 [.agg #[vi k,vi b1,vi b2,vi v,vi d],.int .i64 num,.int .i64 tick] w fun r w' => r = evV (Qqx k b1 b2 v num tick) ∧ Ext w w' := by
 have hgs := hg.size
 rw [Q2v]
 refine Fi Tryz.func94 rfl _ rfl rfl ?_;conv=>whnf
 intro p3 w1 hn1; (conv=>whnf);repeat(refine Sg ?_;(conv=>whnf))
 have g3 : At w1 p3 205 [vi k,vi b1,vi b2,vi v,vi d] := hn1.At
 have e3 := hn1.block
 have s1 := hn1.size
 intro p6 w2 hn2
 have g6 := hn2.At
 have e6 := hn2.block
 have s2 := hn2.size
 replace g3 := g3.ext hn2.ext
 have hx := hn1.ext.trans hn2.ext
 clear hn1 hn2
 (conv=>whnf);repeat(refine Sg ?_;(conv=>whnf))
 refine Dr .same [0,1,2,3,4,5] [] ?_;conv=>whnf
 have hxd : Ext w2 w2.drew := (Ext.refl w2).drew
 replace g3 := g3.ext hxd
 replace g6 := g6.ext hxd
 replace hx := hx.trans hxd
 have s3 : w2.drew.heap.size = w2.heap.size := rfl
 generalize w2.drew = w3 at g3 g6 hx s3 ⊢
 clear hxd
 refine ⟨⟨by decide,by decide⟩,?_⟩;conv=>whnf
 refine ⟨vi k,g3.one rfl,?_⟩;conv=>whnf
 refine ⟨⟨by decide,by decide⟩,?_⟩;conv=>whnf
 refine ⟨vi v,g3.one rfl,?_⟩; (conv=>whnf);repeat(refine Sg ?_;(conv=>whnf))
 have hg3 := hg.ext hx
 have hkn3 := hkn.ext hx
 refine Qin (ι := Nat) (fun p9 => [(3,.pointer (some ⟨p3,0,none⟩)),(6,.pointer (some ⟨p6,0,none⟩)),(7,.int .i64 (k:Nat)),(8,.int .i64 (v:Nat)),(9,.pointer (some ⟨p9,0,none⟩))])
  (fun p9 w' => Ext w3 w' ∧ w3.heap.size ≤ p9 ∧ At w' p9 49 (evC ⟨nb 115 (k / 16 % 2),num,max (tick - 5 * ((k / 32 : Nat) : Int)) 0,kT.getD (k % 16) 0,⟨#[]⟩,⟨#[]⟩,0,⟨#[]⟩⟩)) ?_ ?_
 · refine Qfb (.mods (fun q => w3.heap.size ≤ q)) (Pl.seq [0,1,2,4,5,6,7,8,9,10,11,12,13,14] (Pl.two 3 (Pl.seq [15,16,17] Pl.done) 16 (Pl.seq [3,15,17] Pl.done))) (by intro h; cases h) Qa mixed (by kernel_rfl) ?_;conv=>whnf
   have hxd : Ext w3 w3.drew := (Ext.refl w3).drew
   have sd : w3.drew.heap.size = w3.heap.size := rfl
   have hgd := hg3.ext hxd
   have hkd := hkn3.ext hxd
   generalize w3.drew = w4 at hxd sd hgd hkd ⊢
   refine ⟨((k / 16 : Nat) : Int),tdn (b := 16) (by omega) (by decide),?_⟩;conv=>whnf
   refine ⟨((k / 16 % 2 : Nat) : Int),tmn (b := 2) (by decide),?_⟩;conv=>whnf
   refine ⟨((k / 32 : Nat) : Int),tdn (b := 32) (by omega) (by decide),?_⟩;conv=>whnf
   refine ⟨5 * ((k / 32 : Nat) : Int),wrap_i64 ⟨by omega,by omega⟩,?_⟩;conv=>whnf
   refine ⟨tick - 5 * ((k / 32 : Nat) : Int),wrap_i64 ⟨by omega,by omega⟩,?_⟩;conv=>whnf
   refine ⟨((k % 16 : Nat) : Int),tmn (b := 16) (by decide),?_⟩;conv=>whnf
   refine ⟨⟨by omega,by omega⟩,?_⟩;conv=>whnf
   refine ⟨vi (kT.getD (k % 16) 0),⟨Q66 hkd hk,by rw [add_block]; show ¬ w3.heap.size ≤ 0; omega⟩,?_⟩;conv=>whnf
   generalize kT.getD (k % 16) 0 = kd
   generalize max (tick - 5 * ((k / 32 : Nat) : Int)) 0 = a
   refine ⟨?_,?_⟩
   · refine (X7 115 (k / 16 % 2) (by omega) w4 hgd).mono ?_
     rintro _ w5 ⟨rfl,hx5⟩
     refine ⟨Mod.of_ext hx5,?_⟩;conv=>whnf
     intro p9 w6 hn6
     have e9 := hn6.block
     have s5 := hx5.size
     refine ⟨Mod.of_ext hn6.ext,?_⟩;conv=>whnf
     refine Qc Qa (e := ty49) rfl hn6.At rfl rfl rfl (by simp [Qg,Value.oneCell']) fun w7 g7 ho7 => ?_
     refine ⟨Qh ho7 (by show w3.heap.size ≤ p9; omega),?_⟩;conv=>whnf
     exact ⟨p9,⟨ho7.ext ((hxd.trans hx5).trans hn6.ext) (by omega),by omega,g7⟩,⟨rfl,rfl,rfl,rfl,rfl,trivial⟩⟩
   · intro p9 w6 hn6
     have e9 := hn6.block
     refine ⟨Mod.of_ext hn6.ext,?_⟩;conv=>whnf
     refine (X7 115 (k / 16 % 2) (by omega) w6 (hgd.ext hn6.ext)).mono ?_
     rintro _ w5 ⟨rfl,hx5⟩
     refine ⟨Mod.of_ext hx5,?_⟩;conv=>whnf
     refine Qc Qa (e := ty49) rfl (hn6.At.ext hx5) rfl rfl rfl (by simp [Qg,Value.oneCell']) fun w7 g7 ho7 => ?_
     refine ⟨Qh ho7 (by show w3.heap.size ≤ p9; omega),?_⟩;conv=>whnf
     exact ⟨p9,⟨ho7.ext ((hxd.trans hn6.ext).trans hx5) (by omega),by omega,g7⟩,⟨rfl,rfl,rfl,rfl,rfl,trivial⟩⟩
 rintro p9 w4 ⟨hx4,n9,g9⟩
 clear hkn3
 replace g3 := g3.ext hx4
 have hg4 := hg3.ext hx4
 generalize kT.getD (k % 16) 0 = kd at g9 ⊢
 generalize max (tick - 5 * ((k / 32 : Nat) : Int)) 0 = a at g9 ⊢
 generalize nb 115 (k / 16 % 2) = src at g9 ⊢
 (conv=>whnf);repeat(refine Sg ?_;(conv=>whnf))
 refine Dr .ext [0,1,2,4,5,6,8,9,3,7] [10,11,12,13] ?_;conv=>whnf
 have hxd : Ext w4 w4.drew := (Ext.refl w4).drew
 replace g3 := g3.ext hxd
 replace g9 := g9.ext hxd
 replace hx4 := hx4.trans hxd
 replace hg4 := hg4.ext hxd
 generalize w4.drew = w5 at g3 g9 hx4 hg4 ⊢
 clear hxd
 refine ⟨⟨by decide,by decide⟩,?_⟩;conv=>whnf
 refine ⟨vi b1,g3.one rfl,?_⟩;conv=>whnf
 refine ⟨((b1 % 4 : Nat) : Int),tmn (b := 4) (by decide),?_⟩;conv=>whnf
 refine ⟨⟨by decide,by decide⟩,?_⟩;conv=>whnf
 refine ⟨vi b2,g3.one rfl,?_⟩;conv=>whnf
 refine ⟨((b2 % 6 : Nat) : Int),tmn (b := 6) (by decide),?_⟩;conv=>whnf
 refine ⟨((v % 3 : Nat) : Int),tmn (b := 3) (by decide),?_⟩;conv=>whnf
 refine (X7 112 (b1 % 4) (by omega) w5 hg4).mono ?_
 rintro _ w6 ⟨rfl,hx6⟩
 refine ⟨hx6,?_⟩;conv=>whnf
 refine (X7 105 (b2 % 6) (by omega) w6 (hg4.ext hx6)).mono ?_
 rintro _ w7 ⟨rfl,hx7⟩
 refine ⟨hx7,?_⟩;conv=>whnf
 refine (X7 109 (v % 3) (by omega) w7 ((hg4.ext hx6).ext hx7)).mono ?_
 rintro _ w8 ⟨rfl,hx8⟩
 replace hx4 := ((hx4.trans hx6).trans hx7).trans hx8
 replace g9 := ((g9.ext hx6).ext hx7).ext hx8
 have hg8 := ((hg4.ext hx6).ext hx7).ext hx8
 clear hx6 hx7 hx8 hg4 g3
 have hlist : ∀ w',Gl w' → Cal Tryz.prog 150 [.string (nb 109 (v % 3)),.int .i64 (v:Nat)] w' fun r w'' => r = .string (Qpy (v % 3) (v / 4 % 8)) ∧ Ext w' w'' := fun w' h => Qoo (v % 3) v (by omega) hv w' h
 generalize nb 112 (b1 % 4) = p
 generalize nb 105 (b2 % 6) = i
 generalize nb 109 (v % 3) = m at hlist ⊢
 generalize Qpy (v % 3) (v / 4 % 8) = t at hlist ⊢
 (conv=>whnf);repeat(refine Sg ?_;(conv=>whnf))
 refine ⟨vi kd,g9.one rfl,?_⟩;conv=>whnf
 have hsx := hx.size
 refine Q8 Qa (ι := Bool) (fun q => [(6,.pointer (some ⟨p6,0,none⟩)),(8,.int .i64 (v:Nat)),(9,.pointer (some ⟨p9,0,none⟩)),(10,.string p),(11,.string i),(12,.string m),(45,.int .i64 kd),(50,.bool q)]) (fun q w' => q = decide (kd = 7 ∨ kd = 9) ∧ w' = w8) ?_ ?_
 · (conv=>whnf)
   refine ⟨fun h => ?_,fun h => ?_⟩
   · have h : kd = 7 := by simpa using h
     conv=>whnf
     exact ⟨_,⟨by simp [h],rfl⟩,⟨rfl,rfl,rfl,rfl,rfl,rfl,rfl,rfl,trivial⟩⟩
   have h7 : ¬ kd = 7 := by simpa using h
   conv=>whnf
   exact ⟨_,⟨by simp [h7],rfl⟩,⟨rfl,rfl,rfl,rfl,rfl,rfl,rfl,rfl,trivial⟩⟩
 rintro q w9 ⟨hq,hw⟩
 replace hw := hw.symm
 subst hw hq
 conv=>whnf
 refine ⟨fun h => ?_,fun h => ?_⟩
 · have h : kd = 7 ∨ kd = 9 := by simpa using h
   have hE : Qcr kd src p i m t num a v = ⟨src,num,a,kd,p,⟨#[]⟩,0,m⟩ := by unfold Qcr; rw [if_pos h]
   (conv=>whnf);repeat(refine Sg ?_;(conv=>whnf))
   refine Qc Qa (e := ty9) (off := 4) rfl g9 rfl rfl rfl (by simp [Qg,Value.oneCell']) fun wa ga hoa => ?_; (conv=>whnf);repeat(refine Sg ?_;(conv=>whnf))
   refine Qc Qa (e := ty9) (off := 7) rfl ga rfl rfl rfl (by simp [Qg,Value.oneCell']) fun wb gb hob => ?_; (conv=>whnf);repeat(refine Sg ?_;(conv=>whnf))
   have gz : At wb p9 49 (evC (Qcr kd src p i m t num a v)) := by rw [hE]; exact gb
   have hx9 := hob.ext (hoa.ext hx4 n9) n9
   clear hE
   generalize Qcr kd src p i m t num a v = e at gz ⊢
   refine ⟨evC e,⟨rfl,gz.all⟩,?_⟩; (conv=>whnf);repeat(refine Sg ?_;(conv=>whnf))
   refine Qc Qa (e := ty49) rfl (g6.ext hx9) rfl rfl rfl (Qaw e) fun w10 g10 ho10 => ?_
   have g10 : At w10 p6 49 (evC e) := g10
   (conv=>whnf);repeat(refine Sg ?_;(conv=>whnf))
   refine ⟨evC e,⟨rfl,g10.all⟩,?_⟩; (conv=>whnf);repeat(refine Sg ?_;(conv=>whnf))
   exact ⟨rfl,ho10.ext (hx.trans hx9) (by omega)⟩
 have h79 : ¬ (kd = 7 ∨ kd = 9) := by simpa using h
 conv=>whnf
 refine ⟨fun h => ?_,fun h => ?_⟩
 · have h : kd = 11 := by simpa using h
   have hE : Qcr kd src p i m t num a v = ⟨src,num,a,kd,⟨#[]⟩,i,(v:Nat),t⟩ := by unfold Qcr; rw [if_neg h79,if_pos h]
   (conv=>whnf);repeat(refine Sg ?_;(conv=>whnf))
   refine (hlist w8 hg8).mono ?_
   rintro _ wl ⟨rfl,hxl⟩; (conv=>whnf);repeat(refine Sg ?_;(conv=>whnf))
   refine Qc Qa (e := ty9) (off := 5) rfl (g9.ext hxl) rfl rfl rfl (by simp [Qg,Value.oneCell']) fun wa ga hoa => ?_; (conv=>whnf);repeat(refine Sg ?_;(conv=>whnf))
   refine Qc Qa (e := ty3) (off := 6) rfl ga rfl rfl rfl (by simp [Qg,Value.oneCell']) fun wb gb hob => ?_; (conv=>whnf);repeat(refine Sg ?_;(conv=>whnf))
   refine Qc Qa (e := ty9) (off := 7) rfl gb rfl rfl rfl (by simp [Qg,Value.oneCell']) fun wc gc hoc => ?_; (conv=>whnf);repeat(refine Sg ?_;(conv=>whnf))
   have gz : At wc p9 49 (evC (Qcr kd src p i m t num a v)) := by rw [hE]; exact gc
   have hx9 := hoc.ext (hob.ext (hoa.ext (hx4.trans hxl) n9) n9) n9
   clear hE
   generalize Qcr kd src p i m t num a v = e at gz ⊢
   refine ⟨evC e,⟨rfl,gz.all⟩,?_⟩; (conv=>whnf);repeat(refine Sg ?_;(conv=>whnf))
   refine Qc Qa (e := ty49) rfl (g6.ext hx9) rfl rfl rfl (Qaw e) fun w10 g10 ho10 => ?_
   have g10 : At w10 p6 49 (evC e) := g10
   (conv=>whnf);repeat(refine Sg ?_;(conv=>whnf))
   refine ⟨evC e,⟨rfl,g10.all⟩,?_⟩; (conv=>whnf);repeat(refine Sg ?_;(conv=>whnf))
   exact ⟨rfl,ho10.ext (hx.trans hx9) (by omega)⟩
 have h11 : ¬ kd = 11 := by simpa using h
 conv=>whnf
 refine ⟨fun h => ?_,fun h => ?_⟩
 · have h : kd = 12 := by simpa using h
   have hE : Qcr kd src p i m t num a v = ⟨src,num,a,kd,⟨#[]⟩,i,(v % 3 : Nat),⟨#[]⟩⟩ := by unfold Qcr; rw [if_neg h79,if_neg h11,if_pos h]
   (conv=>whnf);repeat(refine Sg ?_;(conv=>whnf))
   refine ⟨((v % 3 : Nat) : Int),tmn (b := 3) (by decide),?_⟩; (conv=>whnf);repeat(refine Sg ?_;(conv=>whnf))
   refine Qc Qa (e := ty9) (off := 5) rfl g9 rfl rfl rfl (by simp [Qg,Value.oneCell']) fun wa ga hoa => ?_; (conv=>whnf);repeat(refine Sg ?_;(conv=>whnf))
   refine Qc Qa (e := ty3) (off := 6) rfl ga rfl rfl rfl (by simp [Qg,Value.oneCell']) fun wb gb hob => ?_; (conv=>whnf);repeat(refine Sg ?_;(conv=>whnf))
   have gz : At wb p9 49 (evC (Qcr kd src p i m t num a v)) := by rw [hE]; exact gb
   have hx9 := hob.ext (hoa.ext hx4 n9) n9
   clear hE
   generalize Qcr kd src p i m t num a v = e at gz ⊢
   refine ⟨evC e,⟨rfl,gz.all⟩,?_⟩; (conv=>whnf);repeat(refine Sg ?_;(conv=>whnf))
   refine Qc Qa (e := ty49) rfl (g6.ext hx9) rfl rfl rfl (Qaw e) fun w10 g10 ho10 => ?_
   have g10 : At w10 p6 49 (evC e) := g10
   (conv=>whnf);repeat(refine Sg ?_;(conv=>whnf))
   refine ⟨evC e,⟨rfl,g10.all⟩,?_⟩; (conv=>whnf);repeat(refine Sg ?_;(conv=>whnf))
   exact ⟨rfl,ho10.ext (hx.trans hx9) (by omega)⟩
 have h12 : ¬ kd = 12 := by simpa using h
 conv=>whnf
 refine ⟨fun h => ?_,fun h => ?_⟩
 · have h : kd = 13 := by simpa using h
   have hE : Qcr kd src p i m t num a v = ⟨src,num,a,kd,⟨#[]⟩,i,0,⟨#[]⟩⟩ := by unfold Qcr; rw [if_neg h79,if_neg h11,if_neg h12,if_pos h]
   (conv=>whnf);repeat(refine Sg ?_;(conv=>whnf))
   refine Qc Qa (e := ty9) (off := 5) rfl g9 rfl rfl rfl (by simp [Qg,Value.oneCell']) fun wa ga hoa => ?_; (conv=>whnf);repeat(refine Sg ?_;(conv=>whnf))
   have gz : At wa p9 49 (evC (Qcr kd src p i m t num a v)) := by rw [hE]; exact ga
   have hx9 := hoa.ext hx4 n9
   clear hE
   generalize Qcr kd src p i m t num a v = e at gz ⊢
   refine ⟨evC e,⟨rfl,gz.all⟩,?_⟩; (conv=>whnf);repeat(refine Sg ?_;(conv=>whnf))
   refine Qc Qa (e := ty49) rfl (g6.ext hx9) rfl rfl rfl (Qaw e) fun w10 g10 ho10 => ?_
   have g10 : At w10 p6 49 (evC e) := g10
   (conv=>whnf);repeat(refine Sg ?_;(conv=>whnf))
   refine ⟨evC e,⟨rfl,g10.all⟩,?_⟩; (conv=>whnf);repeat(refine Sg ?_;(conv=>whnf))
   exact ⟨rfl,ho10.ext (hx.trans hx9) (by omega)⟩
 have h13 : ¬ kd = 13 := by simpa using h
 conv=>whnf
 refine ⟨fun h => ?_,fun h => ?_⟩
 · have h : kd = 4 := by simpa using h
   have hE : Qcr kd src p i m t num a v = ⟨src,num,a,kd,p,i,(1 + v % 5 : Nat),⟨#[]⟩⟩ := by unfold Qcr; rw [if_neg h79,if_neg h11,if_neg h12,if_neg h13,if_pos h]
   (conv=>whnf);repeat(refine Sg ?_;(conv=>whnf))
   refine ⟨((v % 5 : Nat) : Int),tmn (b := 5) (by decide),?_⟩; (conv=>whnf);repeat(refine Sg ?_;(conv=>whnf))
   refine ⟨((1 + v % 5 : Nat) : Int),by rw [← wrap_i64 ⟨by omega,by omega⟩]; push_cast; rfl,?_⟩; (conv=>whnf);repeat(refine Sg ?_;(conv=>whnf))
   refine Qc Qa (e := ty9) (off := 4) rfl g9 rfl rfl rfl (by simp [Qg,Value.oneCell']) fun wa ga hoa => ?_; (conv=>whnf);repeat(refine Sg ?_;(conv=>whnf))
   refine Qc Qa (e := ty9) (off := 5) rfl ga rfl rfl rfl (by simp [Qg,Value.oneCell']) fun wb gb hob => ?_; (conv=>whnf);repeat(refine Sg ?_;(conv=>whnf))
   refine Qc Qa (e := ty3) (off := 6) rfl gb rfl rfl rfl (by simp [Qg,Value.oneCell']) fun wc gc hoc => ?_; (conv=>whnf);repeat(refine Sg ?_;(conv=>whnf))
   have gz : At wc p9 49 (evC (Qcr kd src p i m t num a v)) := by rw [hE]; exact gc
   have hx9 := hoc.ext (hob.ext (hoa.ext hx4 n9) n9) n9
   clear hE
   generalize Qcr kd src p i m t num a v = e at gz ⊢
   refine ⟨evC e,⟨rfl,gz.all⟩,?_⟩; (conv=>whnf);repeat(refine Sg ?_;(conv=>whnf))
   refine Qc Qa (e := ty49) rfl (g6.ext hx9) rfl rfl rfl (Qaw e) fun w10 g10 ho10 => ?_
   have g10 : At w10 p6 49 (evC e) := g10
   (conv=>whnf);repeat(refine Sg ?_;(conv=>whnf))
   refine ⟨evC e,⟨rfl,g10.all⟩,?_⟩; (conv=>whnf);repeat(refine Sg ?_;(conv=>whnf))
   exact ⟨rfl,ho10.ext (hx.trans hx9) (by omega)⟩
 have h4 : ¬ kd = 4 := by simpa using h
 have hE : Qcr kd src p i m t num a v = ⟨src,num,a,kd,p,i,0,⟨#[]⟩⟩ := by unfold Qcr; rw [if_neg h79,if_neg h11,if_neg h12,if_neg h13,if_neg h4]
 (conv=>whnf);repeat(refine Sg ?_;(conv=>whnf))
 refine Qc Qa (e := ty9) (off := 4) rfl g9 rfl rfl rfl (by simp [Qg,Value.oneCell']) fun wa ga hoa => ?_; (conv=>whnf);repeat(refine Sg ?_;(conv=>whnf))
 refine Qc Qa (e := ty9) (off := 5) rfl ga rfl rfl rfl (by simp [Qg,Value.oneCell']) fun wb gb hob => ?_; (conv=>whnf);repeat(refine Sg ?_;(conv=>whnf))
 have gz : At wb p9 49 (evC (Qcr kd src p i m t num a v)) := by rw [hE]; exact gb
 have hx9 := hob.ext (hoa.ext hx4 n9) n9
 clear hE
 generalize Qcr kd src p i m t num a v = e at gz ⊢
 refine ⟨evC e,⟨rfl,gz.all⟩,?_⟩; (conv=>whnf);repeat(refine Sg ?_;(conv=>whnf))
 refine Qc Qa (e := ty49) rfl (g6.ext hx9) rfl rfl rfl (Qaw e) fun w10 g10 ho10 => ?_
 have g10 : At w10 p6 49 (evC e) := g10
 (conv=>whnf);repeat(refine Sg ?_;(conv=>whnf))
 refine ⟨evC e,⟨rfl,g10.all⟩,?_⟩; (conv=>whnf);repeat(refine Sg ?_;(conv=>whnf))
 exact ⟨rfl,ho10.ext (hx.trans hx9) (by omega)⟩
def taC (c:Cfg) (a:Nat → Int) (every seed:Int) (A:Option Addr) (n cap:Nat) (t:Int) : List Value := Qah c a every seed ++ [.slice A n cap,vi t]
theorem Q3m : Qrb Tryz.prog 98 104 Qw2 13 144 := ⟨by kernel_rfl,⟨_,ty104_ok,rfl,rfl⟩,by kernel_rfl,by decide,by decide,Quv,Quw⟩
theorem Q3u : Tryz.prog.underlying 135 = some (.map 9 3) := by kernel_rfl
structure PaH (w0:World) (n0 p1 p2 p6:Nat) (V1 V2 V6:List Value) (B:Option Addr) (d:Nat) (S:List Stp) (w:World) : Prop where
 ext : Ext w0 w
 a1 : At w p1 22 V1
 a2 : At w p2 100 V2
 a6 : At w p6 100 V6
 own : Own Qw2 13 104 n0 w B d S
section
variable {w0:World} {n0 p1 p2 p6:Nat} {V1 V2 V6:List Value} {B:Option Addr} {d:Nat} {S:List Stp} {w w':World}
theorem PaH.ex (h:PaH w0 n0 p1 p2 p6 V1 V2 V6 B d S w) (hx:Ext w w') : PaH w0 n0 p1 p2 p6 V1 V2 V6 B d S w' := ⟨h.ext.trans hx,h.a1.ext hx,h.a2.ext hx,h.a6.ext hx,h.own.ext hx⟩
theorem PaH.only (h:PaH w0 n0 p1 p2 p6 V1 V2 V6 B d S w) {b:Nat} (ho:Only w w' b) (h0:w0.heap.size ≤ b) (h1:p1 ≠ b) (h2:p2 ≠ b) (h6:p6 ≠ b) (hB:∀ a,B = some a → a.block ≠ b) : PaH w0 n0 p1 p2 p6 V1 V2 V6 B d S w' :=
 ⟨ho.ext h.ext h0,ho.at_ h.a1 h1,ho.at_ h.a2 h2,ho.at_ h.a6 h6,h.own.keep fun a ha => ho.block _ (hB a ha)⟩
end
theorem Qjb {w w':World} {b t n0:Nat} {l:List Value} {row:Option Nat} (h:At w b t l) (hg:w.grownBy w' row) (hr:row ≠ some b) : At w' b t l := (hg.block b h.lt fun e => hr e.symm).trans h
def ev0 : Ev := ⟨⟨#[]⟩,0,0,0,⟨#[]⟩,⟨#[]⟩,0,⟨#[]⟩⟩
theorem Qub {w:World} {bm:Nat} {L:List (ByteArray × Int)} (hm:MapAt w bm Value.string (Xw vi L)) (s:ByteArray) : RdS Tryz.prog .same w (Instr.lookup 135 (.map (some bm)) (.string s) false) (.int .i64 (Qjc L s)) := by
 have hl := Qac Q3u (Qq Xg) (e := ty3) ty3_ok (cl := .same) Qo hm s
 rw [show ty3.zero = vi 0 from rfl,Qag] at hl
 exact hl
set_option maxHeartbeats 8000000 in
theorem Qmk (bs:List Nat) (A:Option Addr) (cp:Nat) (w:World) (hg:Gl w) (hkn:Qva w) (hs:Sl u8C 1 w A bs) (hb:∀ x ∈ bs,x < 256) (hl:bs.length ≤ 300) :
 Cal Tryz.prog 48 [.slice A bs.length cp] w fun r w' => ∃ c every seed B d S L t,r = .agg (taC c (Qbv 6) every seed B S.length d t).toArray ∧ Qrk c = true ∧ Qlr S L t ∧ 5 * S.length ≤ bs.length ∧ Sl Qw2 13 w' B S ∧ Ext w w' := by
 have hgs := hg.size
 have hget : ∀ i,bs.getD i 0 < 256 := fun i => by
  by_cases h : i < bs.length
  · rw [show bs.getD i 0 = bs[i] by simp [List.getD,h]]
    exact hb _ (List.getElem_mem h)
  · rw [show bs.getD i 0 = 0 by simp [List.getD,Nat.not_lt.1 h]]
    decide
 refine Fi Tryz.func48 rfl _ rfl rfl ?_;conv=>whnf
 intro p1 w1 hn1; (conv=>whnf);repeat(refine Sg ?_;(conv=>whnf))
 have g1 : At w1 p1 22 [.slice A bs.length cp] := hn1.At
 have e1 := hn1.block
 have s1 := hn1.size
 intro p2 w2 hn2
 have g2 : At w2 p2 100 (Qg ty100.zero) := hn2.At
 have e2 := hn2.block
 have s2 := hn2.size
 replace g1 := g1.ext hn2.ext
 have hx := hn1.ext.trans hn2.ext
 clear hn1 hn2
 (conv=>whnf);repeat(refine Sg ?_;(conv=>whnf))
 intro p4 w3 hn3
 have g4 : At w3 p4 203 (Qj7 8 (fun i => bs.getD i 0) 0) := hn3.At
 have e4 := hn3.block
 have s3 := hn3.size
 replace g1 := g1.ext hn3.ext
 replace g2 := g2.ext hn3.ext
 replace hx := hx.trans hn3.ext
 clear hn3
 (conv=>whnf);repeat(refine Sg ?_;(conv=>whnf))
 refine Qj Qa (fun (k:Nat) w' => k ≤ 8 ∧ Ext w w' ∧ w3.heap.size ≤ w'.heap.size ∧ At w' p1 22 [.slice A bs.length cp] ∧ At w' p2 100 (Qg ty100.zero) ∧ At w' p4 203 (Qj7 8 (fun i => bs.getD i 0) k))
  (fun k => [(1,.pointer (some ⟨p1,0,none⟩)),(2,.pointer (some ⟨p2,0,none⟩)),(3,.func (.func 91) #[] #[.pointer (some ⟨p1,0,none⟩)]),(4,.pointer (some ⟨p4,0,none⟩)),(16,.int .i64 (k:Nat))]) (fun k => 8 - k) 0 ⟨by omega,hx,Nat.le_refl _,g1,g2,g4⟩ ⟨rfl,rfl,rfl,rfl,rfl,trivial⟩ ?_
 clear hx g1 g2 g4
 rintro k w4 ⟨hk,hx,hsz,g1,g2,g4⟩
 conv=>whnf
 constructor
 · intro hlt
   have hlt : k < 8 := by
    have : (k:Int) < 8 := by simpa using hlt
    omega
   (conv=>whnf);repeat(refine Sg ?_;(conv=>whnf))
   refine (Qu2 p1 bs A cp w4 g1 (hs.ext hx) hb k).mono ?_
   rintro _ w5 ⟨rfl,hw⟩
   replace hw := hw.symm
   subst hw
   (conv=>whnf);repeat(refine Sg ?_;(conv=>whnf))
   refine ⟨⟨by omega,by omega⟩,?_⟩; (conv=>whnf);repeat(refine Sg ?_;(conv=>whnf))
   refine Qmw (f := fun i => bs.getD i 0) hlt g4 rfl fun w6 g6 ho6 => ?_; (conv=>whnf);repeat(refine Sg ?_;(conv=>whnf))
   refine ⟨_,wrap_succ (by omega),?_⟩; (conv=>whnf);repeat(refine Sg ?_;(conv=>whnf))
   exact ⟨k + 1,by omega,⟨by omega,ho6.ext hx (by omega),by rw [ho6.size]; exact hsz,ho6.at_ g1 (by omega),ho6.at_ g2 (by omega),g6⟩,⟨rfl,rfl,rfl,rfl,rfl,trivial⟩⟩
 intro hge
 have hge : k = 8 := by
  have : ¬ (k:Int) < 8 := by simpa using hge
  omega
 subst hge
 have g4 : At w4 p4 203 [vi (bs.getD 0 0 : Nat),vi (bs.getD 1 0 : Nat),vi (bs.getD 2 0 : Nat),vi (bs.getD 3 0 : Nat),vi (bs.getD 4 0 : Nat),vi (bs.getD 5 0 : Nat),vi (bs.getD 6 0 : Nat),vi (bs.getD 7 0 : Nat)] := g4
 (conv=>whnf);repeat(refine Sg ?_;(conv=>whnf))
 refine ⟨[vi (bs.getD 0 0 : Nat),vi (bs.getD 1 0 : Nat),vi (bs.getD 2 0 : Nat),vi (bs.getD 3 0 : Nat),vi (bs.getD 4 0 : Nat),vi (bs.getD 5 0 : Nat),vi (bs.getD 6 0 : Nat),vi (bs.getD 7 0 : Nat)],⟨rfl,g4.all⟩,?_⟩; (conv=>whnf);repeat(refine Sg ?_;(conv=>whnf))
 refine (Qod (bs.getD 0 0) (bs.getD 1 0) (bs.getD 2 0) (bs.getD 3 0) (bs.getD 4 0) (bs.getD 5 0) (bs.getD 6 0) (bs.getD 7 0) (hget 0) (hget 1) (hget 2) (hget 3) (hget 4) (hget 5) (hget 6) (hget 7) w4).mono ?_
 rintro _ w5 ⟨rfl,hx5⟩
 have hcf : Qrk (Q38 (bs.getD 0 0 : Nat) (bs.getD 1 0 : Nat) (bs.getD 2 0 : Nat) (bs.getD 3 0 : Nat) (bs.getD 4 0 : Nat) (bs.getD 5 0 : Nat)) = true := by
  have q0 := hget 0; have q1 := hget 1; have q2 := hget 2; have q3 := hget 3; have q4 := hget 4; have q5 := hget 5
  exact Q1k ⟨by omega,by omega⟩ ⟨by omega,by omega⟩ ⟨by omega,by omega⟩ ⟨by omega,by omega⟩ ⟨by omega,by omega⟩ ⟨by omega,by omega⟩
 generalize Q38 (bs.getD 0 0 : Nat) (bs.getD 1 0 : Nat) (bs.getD 2 0 : Nat) (bs.getD 3 0 : Nat) (bs.getD 4 0 : Nat) (bs.getD 5 0 : Nat) = c at hcf ⊢
 generalize ((bs.getD 6 0 % 4 : Nat) : Int) = every
 generalize ((bs.getD 7 0 : Nat) : Int) = seed
 replace g1 := g1.ext hx5
 replace g2 := g2.ext hx5
 replace hx := hx.trans hx5
 have z5 := hx5.size
 clear hx5 g4
 (conv=>whnf);repeat(refine Sg ?_;(conv=>whnf))
 intro p6 w6 hn6; (conv=>whnf);repeat(refine Sg ?_;(conv=>whnf))
 refine Qc Qa (e := ty100) rfl hn6.At rfl rfl rfl (by simp [Qg,Qah,Value.oneCell']) fun w7 g6 ho7 => ?_
 have g6 : At w7 p6 100 (taC c (Qbv 6) every seed none 0 0 1000) := g6
 have e6 := hn6.block
 have hx57 : Ext w5 w7 := ho7.ext hn6.ext (by omega)
 have z7 := hx57.size
 replace g1 := g1.ext hx57
 replace g2 := g2.ext hx57
 replace hx := hx.trans hx57
 clear ho7 hn6 hx57
 (conv=>whnf);repeat(refine Sg ?_;(conv=>whnf))
 intro bm w8 hn8
 have hm : MapAt w8 bm Value.string (Xw vi ([] : List (ByteArray × Int))) := MapAt.new hn8
 have e8 := hn8.block
 have z8 := hn8.size
 have l6 := g6.lt
 have hP : PaH w w8.heap.size p1 p2 p6 [.slice A bs.length cp] (Qg ty100.zero) (taC c (Qbv 6) every seed none 0 0 1000) none 0 [] w8 := ⟨hx.trans hn8.ext,g1.ext hn8.ext,g2.ext hn8.ext,g6.ext hn8.ext,Own.nil⟩
 clear hn8 g1 g2 g6 hx
 have q1 : p1 < p2 ∧ p2 < p6 ∧ p6 < bm ∧ bm < w8.heap.size ∧ w.heap.size ≤ p1 := by omega
 clear e1 s1 e2 s2 e4 s3 z5 e6 z7 e8 z8 l6 hsz
 (conv=>whnf);repeat(refine Sg ?_;(conv=>whnf))
 refine Qj Qa (fun (x:List Stp × List (ByteArray × Int) × Option Addr × Nat × Int) w' => 5 * x.1.length ≤ bs.length ∧ Qlr x.1 x.2.1 x.2.2.2.2 ∧ MapAt w' bm Value.string (Xw vi x.2.1) ∧ w8.heap.size ≤ w'.heap.size ∧ PaH w w8.heap.size p1 p2 p6 [.slice A bs.length cp] (Qg ty100.zero) (taC c (Qbv 6) every seed x.2.2.1 x.1.length x.2.2.2.1 x.2.2.2.2) x.2.2.1 x.2.2.2.1 x.1 w')
  (fun | (S,L,B,d,t) => [(1,.pointer (some ⟨p1,0,none⟩)),(2,.pointer (some ⟨p2,0,none⟩)),(3,.func (.func 91) #[] #[.pointer (some ⟨p1,0,none⟩)]),(6,.pointer (some ⟨p6,0,none⟩)),(7,.map (some bm)),(8,.int .i64 ((8 + 5 * S.length : Nat) : Int))]) (fun x => bs.length - 5 * x.1.length) ([],[],none,0,1000) ⟨by simp,Q2s,hm,Nat.le_refl _,hP⟩ ⟨rfl,rfl,rfl,rfl,rfl,rfl,trivial⟩ ?_
 clear hm hP
 rintro ⟨S,L,B,d,t⟩ w9 ⟨hk,hT,hm,h89,hP⟩
 simp only at hk hT hm hP
 conv=>whnf
 refine ⟨.slice A bs.length cp,hP.a1.one0,?_⟩;conv=>whnf
 constructor
 · intro hlt
   have hlt : 8 + 5 * S.length < bs.length := by
    have : (((8 + 5 * S.length : Nat)) : Int) < bs.length := by simpa using hlt
    omega
   have hSl : S.length ≤ 59 := by omega
   have hBl : ∀ a,B = some a → w8.heap.size ≤ a.block ∧ a.block < w9.heap.size := fun a ha => hP.own.block ha
   (conv=>whnf);repeat(refine Sg ?_;(conv=>whnf))
   intro p9 wa hna
   have g9 : At wa p9 205 (Qj7 5 (fun j => bs.getD (8 + 5 * S.length + j) 0) 0) := hna.At
   have e9 := hna.block
   have xa := hna.ext
   clear hna
   (conv=>whnf);repeat(refine Sg ?_;(conv=>whnf))
   refine Qj Qa (fun (j:Nat) w' => j ≤ 5 ∧ Ext w9 w' ∧ At w' p9 205 (Qj7 5 (fun j => bs.getD (8 + 5 * S.length + j) 0) j))
    (fun j => [(1,.pointer (some ⟨p1,0,none⟩)),(2,.pointer (some ⟨p2,0,none⟩)),(3,.func (.func 91) #[] #[.pointer (some ⟨p1,0,none⟩)]),(6,.pointer (some ⟨p6,0,none⟩)),(7,.map (some bm)),(8,.int .i64 ((8 + 5 * S.length : Nat) : Int)),(9,.pointer (some ⟨p9,0,none⟩)),(35,.int .i64 (j:Nat))]) (fun j => 5 - j) 0 ⟨by omega,xa,g9⟩ ⟨rfl,rfl,rfl,rfl,rfl,rfl,rfl,rfl,trivial⟩ ?_
   clear xa g9
   rintro j wb ⟨hj,xb,g9⟩
   conv=>whnf
   constructor
   · intro hlj
     have hlj : j < 5 := by
      have : (j:Int) < 5 := by simpa using hlj
      omega
     (conv=>whnf);repeat(refine Sg ?_;(conv=>whnf))
     refine ⟨((8 + 5 * S.length + j : Nat) : Int),Qaq (by omega),?_⟩; (conv=>whnf);repeat(refine Sg ?_;(conv=>whnf))
     refine (Qu2 p1 bs A cp wb (hP.a1.ext xb) (hs.ext (hP.ext.trans xb)) hb (8 + 5 * S.length + j)).mono ?_
     rintro _ w5 ⟨rfl,hw⟩
     replace hw := hw.symm
     subst hw
     (conv=>whnf);repeat(refine Sg ?_;(conv=>whnf))
     refine ⟨⟨by omega,by omega⟩,?_⟩; (conv=>whnf);repeat(refine Sg ?_;(conv=>whnf))
     refine Qmw (f := fun j => bs.getD (8 + 5 * S.length + j) 0) hlj g9 rfl fun wc gc hoc => ?_; (conv=>whnf);repeat(refine Sg ?_;(conv=>whnf))
     refine ⟨_,wrap_succ (by omega),?_⟩; (conv=>whnf);repeat(refine Sg ?_;(conv=>whnf))
     exact ⟨j + 1,by omega,⟨by omega,hoc.ext xb (by omega),gc⟩,⟨rfl,rfl,rfl,rfl,rfl,rfl,rfl,rfl,trivial⟩⟩
   intro hgj
   have hgj : j = 5 := by
    have : ¬ (j:Int) < 5 := by simpa using hgj
    omega
   subst hgj
   have f0 := hget (8 + 5 * S.length + 0)
   have f1 := hget (8 + 5 * S.length + 1)
   have f2 := hget (8 + 5 * S.length + 2)
   have f3 := hget (8 + 5 * S.length + 3)
   have f4 := hget (8 + 5 * S.length + 4)
   have g9 : At wb p9 205 [vi (bs.getD (8 + 5 * S.length + 0) 0 : Nat),vi (bs.getD (8 + 5 * S.length + 1) 0 : Nat),vi (bs.getD (8 + 5 * S.length + 2) 0 : Nat),vi (bs.getD (8 + 5 * S.length + 3) 0 : Nat),vi (bs.getD (8 + 5 * S.length + 4) 0 : Nat)] := g9
   generalize bs.getD (8 + 5 * S.length + 0) 0 = x0 at f0 g9
   generalize bs.getD (8 + 5 * S.length + 1) 0 = x1 at f1 g9
   generalize bs.getD (8 + 5 * S.length + 2) 0 = x2 at f2 g9
   generalize bs.getD (8 + 5 * S.length + 3) 0 = x3 at f3 g9
   generalize bs.getD (8 + 5 * S.length + 4) 0 = x4 at f4 g9
   (conv=>whnf);repeat(refine Sg ?_;(conv=>whnf))
   refine ⟨.int .i64 t,(hP.a6.ext xb).one rfl,?_⟩; (conv=>whnf);repeat(refine Sg ?_;(conv=>whnf))
   intro p11 wc hnc; (conv=>whnf);repeat(refine Sg ?_;(conv=>whnf))
   refine Qc Qa (e := ty104) rfl hnc.At rfl rfl rfl (by simp [Qg,Value.oneCell']) fun wd g11 hod => ?_
   have g11 : At wd p11 104 (Qw2 ⟨0,ev0,⟨#[]⟩,t,0,0⟩) := g11
   have e11 := hnc.block
   have zb := xb.size
   have xd : Ext w9 wd := hod.ext (xb.trans hnc.ext) (by omega)
   have l9 := g9.lt
   have hne : p9 ≠ p11 := by omega
   replace g9 := hod.at_ (g9.ext hnc.ext) hne
   clear hod hnc xb
   have tick := hT.end_
   have hnm := Q2t hT (by omega)
   (conv=>whnf);repeat(refine Sg ?_;(conv=>whnf))
   refine ⟨⟨by decide,by decide⟩,?_⟩; (conv=>whnf);repeat(refine Sg ?_;(conv=>whnf))
   refine ⟨.int .i64 (x3:Nat),g9.one rfl,?_⟩;conv=>whnf
   refine Q8 Qa (ι := Stp × List (ByteArray × Int)) (fun _ => [(1,.pointer (some ⟨p1,0,none⟩)),(2,.pointer (some ⟨p2,0,none⟩)),(3,.func (.func 91) #[] #[.pointer (some ⟨p1,0,none⟩)]),(6,.pointer (some ⟨p6,0,none⟩)),(7,.map (some bm)),(8,.int .i64 ((8 + 5 * S.length : Nat) : Int)),(9,.pointer (some ⟨p9,0,none⟩)),(11,.pointer (some ⟨p11,0,none⟩))])
    (fun y w' => PaH w w8.heap.size p1 p2 p6 [.slice A bs.length cp] (Qg ty100.zero) (taC c (Qbv 6) every seed B S.length d t) B d S w' ∧ w9.heap.size ≤ w'.heap.size ∧ MapAt w' bm Value.string (Xw vi y.2) ∧ At w' p9 205 [vi (x0:Nat),vi (x1:Nat),vi (x2:Nat),vi (x3:Nat),vi (x4:Nat)] ∧ At w' p11 104 (Qw2 y.1) ∧ ∀ δ : Int,0 ≤ δ ∧ δ ≤ 15 → Qlr (S ++ [y.1]) y.2 (t + δ)) ?_ ?_
   · -- one of the kinds of steps
     have oth : ∀ (s:Stp) (w':World),Ext w9 w' → At w' p9 205 [vi (x0:Nat),vi (x1:Nat),vi (x2:Nat),vi (x3:Nat),vi (x4:Nat)] → At w' p11 104 (Qw2 s) → s.what ≠ 0 →
      (PaH w w8.heap.size p1 p2 p6 [.slice A bs.length cp] (Qg ty100.zero) (taC c (Qbv 6) every seed B S.length d t) B d S w' ∧ w9.heap.size ≤ w'.heap.size ∧ MapAt w' bm Value.string (Xw vi L) ∧ At w' p9 205 [vi (x0:Nat),vi (x1:Nat),vi (x2:Nat),vi (x3:Nat),vi (x4:Nat)] ∧ At w' p11 104 (Qw2 s) ∧ ∀ δ : Int,0 ≤ δ ∧ δ ≤ 15 → Qlr (S ++ [s]) L (t + δ)) :=
      fun s w' hxw h9 h11 hw => ⟨hP.ex hxw,hxw.size,hm.ext hxw,h9,h11,fun δ hδ => Qw9 hT hw hδ⟩
     (conv=>whnf);repeat(refine Sg ?_;(conv=>whnf))
     refine ⟨⟨by decide,by decide⟩,?_⟩; (conv=>whnf);repeat(refine Sg ?_;(conv=>whnf))
     refine ⟨.int .i64 (x0:Nat),g9.one rfl,?_⟩; (conv=>whnf);repeat(refine Sg ?_;(conv=>whnf))
     refine ⟨((x0 % 16 : Nat) : Int),tmn (b := 16) (by decide),?_⟩; (conv=>whnf);repeat(refine Sg ?_;(conv=>whnf))
     refine ⟨fun h => ?_,fun h => ?_⟩
     · (conv=>whnf);repeat(refine Sg ?_;(conv=>whnf))
       refine Qc Qa (e := ty102) (off := 0) rfl g11 rfl rfl rfl (by simp [Qg,Value.oneCell']) fun we ge hoe => ?_; (conv=>whnf);repeat(refine Sg ?_;(conv=>whnf))
       refine Qc Qa (e := ty3) (off := 12) rfl ge rfl rfl rfl (by simp [Qg,Value.oneCell']) fun wf gf hof => ?_; (conv=>whnf);repeat(refine Sg ?_;(conv=>whnf))
       exact ⟨(⟨1,ev0,⟨#[]⟩,t,0,(x3:Nat)⟩,L),oth _ _ (hof.ext (hoe.ext xd (by omega)) (by omega)) (hof.at_ (hoe.at_ g9 hne) hne) gf (show (1:Int) ≠ 0 by decide),⟨rfl,rfl,rfl,rfl,rfl,rfl,rfl,rfl,trivial⟩⟩
     have h13 : ¬ x0 % 16 = 13 := by
      have : ¬ ((x0 % 16 : Nat) : Int) = 13 := by simpa using h
      omega
     (conv=>whnf);repeat(refine Sg ?_;(conv=>whnf))
     refine ⟨((x3 % 2 : Nat) : Int),fun _ => tmn (b := 2) (by decide),?_⟩; (conv=>whnf);repeat(refine Sg ?_;(conv=>whnf))
     refine ⟨fun h => ?_,fun h => ?_⟩
     · (conv=>whnf);repeat(refine Sg ?_;(conv=>whnf))
       refine Qc Qa (e := ty102) (off := 0) rfl g11 rfl rfl rfl (by simp [Qg,Value.oneCell']) fun we ge hoe => ?_; (conv=>whnf);repeat(refine Sg ?_;(conv=>whnf))
       refine Qc Qa (e := ty3) (off := 11) rfl ge rfl rfl rfl (by simp [Qg,Value.oneCell']) fun wf gf hof => ?_; (conv=>whnf);repeat(refine Sg ?_;(conv=>whnf))
       exact ⟨(⟨2,ev0,⟨#[]⟩,t,(x3:Nat),0⟩,L),oth _ _ (hof.ext (hoe.ext xd (by omega)) (by omega)) (hof.at_ (hoe.at_ g9 hne) hne) gf (show (2:Int) ≠ 0 by decide),⟨rfl,rfl,rfl,rfl,rfl,rfl,rfl,rfl,trivial⟩⟩
     (conv=>whnf);repeat(refine Sg ?_;(conv=>whnf))
     refine ⟨fun h => ?_,fun h => ?_⟩
     · (conv=>whnf);repeat(refine Sg ?_;(conv=>whnf))
       refine Qc Qa (e := ty102) (off := 0) rfl g11 rfl rfl rfl (by simp [Qg,Value.oneCell']) fun we ge hoe => ?_; (conv=>whnf);repeat(refine Sg ?_;(conv=>whnf))
       exact ⟨(⟨3,ev0,⟨#[]⟩,t,0,0⟩,L),oth _ _ (hoe.ext xd (by omega)) (hoe.at_ g9 hne) ge (show (3:Int) ≠ 0 by decide),⟨rfl,rfl,rfl,rfl,rfl,rfl,rfl,rfl,trivial⟩⟩
     have h14 : ¬ x0 % 16 = 14 := by
      have : ¬ ((x0 % 16 : Nat) : Int) = 14 := by simpa using h
      omega
     (conv=>whnf);repeat(refine Sg ?_;(conv=>whnf))
     refine ⟨fun h => ?_,fun h => ?_⟩
     · (conv=>whnf);repeat(refine Sg ?_;(conv=>whnf))
       refine ⟨⟨by decide,by decide⟩,?_⟩; (conv=>whnf);repeat(refine Sg ?_;(conv=>whnf))
       refine ⟨.int .i64 (x1:Nat),g9.one rfl,?_⟩; (conv=>whnf);repeat(refine Sg ?_;(conv=>whnf))
       refine ⟨((x1 % 4 : Nat) : Int),tmn (b := 4) (by decide),?_⟩; (conv=>whnf);repeat(refine Sg ?_;(conv=>whnf))
       refine (X7 112 (x1 % 4) (by omega) wd ((hg.ext hP.ext).ext xd)).mono ?_
       rintro _ wn ⟨rfl,hxn⟩; (conv=>whnf);repeat(refine Sg ?_;(conv=>whnf))
       refine Qc Qa (e := ty102) (off := 0) rfl (g11.ext hxn) rfl rfl rfl (by simp [Qg,Value.oneCell']) fun we ge hoe => ?_; (conv=>whnf);repeat(refine Sg ?_;(conv=>whnf))
       refine Qc Qa (e := ty9) (off := 9) rfl ge rfl rfl rfl (by simp [Qg,Value.oneCell']) fun wf gf hof => ?_; (conv=>whnf);repeat(refine Sg ?_;(conv=>whnf))
       exact ⟨(⟨4,ev0,nb 112 (x1 % 4),t,0,0⟩,L),oth _ _ (hof.ext (hoe.ext (xd.trans hxn) (by omega)) (by omega)) (hof.at_ (hoe.at_ (g9.ext hxn) hne) hne) gf (show (4:Int) ≠ 0 by decide),⟨rfl,rfl,rfl,rfl,rfl,rfl,rfl,rfl,trivial⟩⟩
     have h15 : ¬ x0 % 16 = 15 := by
      have : ¬ ((x0 % 16 : Nat) : Int) = 15 := by simpa using h
      omega
     have hk13 : x0 % 16 < 13 := by omega
     clear oth
     (conv=>whnf);repeat(refine Sg ?_;(conv=>whnf))
     refine ⟨⟨by decide,by decide⟩,?_⟩; (conv=>whnf);repeat(refine Sg ?_;(conv=>whnf))
     refine ⟨.int .i64 (x0:Nat),g9.one rfl,?_⟩; (conv=>whnf);repeat(refine Sg ?_;(conv=>whnf))
     refine ⟨((x0 / 16 : Nat) : Int),tdn (b := 16) (by omega) (by decide),?_⟩; (conv=>whnf);repeat(refine Sg ?_;(conv=>whnf))
     refine ⟨((x0 / 16 % 2 : Nat) : Int),tmn (b := 2) (by decide),?_⟩; (conv=>whnf);repeat(refine Sg ?_;(conv=>whnf))
     refine (X7 115 (x0 / 16 % 2) (by omega) wd ((hg.ext hP.ext).ext xd)).mono ?_
     rintro _ wn ⟨rfl,hxn⟩
     have hsm := Q2w (b1 := x1) (b2 := x2) hk13 f3 (hnm (nb 115 (x0 / 16 % 2)) |> fun h => ⟨h.1,h.2.1⟩) ⟨(hnm ⟨#[]⟩).2.2.1,(hnm ⟨#[]⟩).2.2.2⟩
     have hmn := hm.ext (xd.trans hxn)
     have hPn := hP.ex (xd.trans hxn)
     replace g9 := g9.ext hxn
     replace g11 := g11.ext hxn
     have zn := (xd.trans hxn).size
     have hcn := hnm (nb 115 (x0 / 16 % 2))
     clear hm hxn xd
     (conv=>whnf);repeat(refine Sg ?_;(conv=>whnf))
     refine ⟨_,Qub hmn _,?_⟩; (conv=>whnf);repeat(refine Sg ?_;(conv=>whnf))
     refine ⟨Qjc L (nb 115 (x0 / 16 % 2)) + 1,wrap_i64 ⟨by omega,by omega⟩,?_⟩; (conv=>whnf);repeat(refine Sg ?_;(conv=>whnf))
     refine Qs Q3u (Qq Xg) hmn (nb 115 (x0 / 16 % 2)) (vi (Qjc L (nb 115 (x0 / 16 % 2)) + 1)) fun wo hmo hoo => ?_
     rw [Q5] at hmo
     replace hPn := hPn.only hoo (by omega) (by omega) (by omega) (by omega) (fun a ha => by have := (hBl a ha).1; omega)
     replace g9 := hoo.at_ g9 (by omega)
     replace g11 := hoo.at_ g11 (by omega)
     rw [← hoo.size] at zn
     clear hoo hmn
     (conv=>whnf);repeat(refine Sg ?_;(conv=>whnf))
     refine ⟨[vi (x0:Nat),vi (x1:Nat),vi (x2:Nat),vi (x3:Nat),vi (x4:Nat)],⟨rfl,g9.all⟩,?_⟩; (conv=>whnf);repeat(refine Sg ?_;(conv=>whnf))
     have hlk := Qub hmo (nb 115 (x0 / 16 % 2))
     rw [show Qjc (Q3 L (nb 115 (x0 / 16 % 2)) (Qjc L (nb 115 (x0 / 16 % 2)) + 1)) (nb 115 (x0 / 16 % 2)) = Qjc L (nb 115 (x0 / 16 % 2)) + 1 by unfold Qjc; rw [Qy]; rfl] at hlk
     refine ⟨_,hlk,?_⟩; (conv=>whnf);repeat(refine Sg ?_;(conv=>whnf))
     refine ⟨.int .i64 t,hPn.a6.one rfl,?_⟩; (conv=>whnf);repeat(refine Sg ?_;(conv=>whnf))
     refine (Q0w x0 x1 x2 x3 x4 (Qjc L (nb 115 (x0 / 16 % 2)) + 1) t hk13 f0 f1 f2 f3 ⟨hcn.2.2.1,hcn.2.2.2⟩ wo (hg.ext hPn.ext) (hkn.ext hPn.ext)).mono ?_
     rintro _ wt ⟨rfl,hxt⟩
     generalize Qqx x0 x1 x2 x3 (Qjc L (nb 115 (x0 / 16 % 2)) + 1) t = e at hsm ⊢
     replace hPn := hPn.ex hxt
     replace g9 := g9.ext hxt
     replace g11 := g11.ext hxt
     replace hmo := hmo.ext hxt
     replace zn := Nat.le_trans zn hxt.size
     clear hlk hxt
     (conv=>whnf);repeat(refine Sg ?_;(conv=>whnf))
     refine Qc Qa (e := ty102) (off := 0) rfl g11 rfl rfl rfl (by simp [Qg,Value.oneCell']) fun we ge hoe => ?_; (conv=>whnf);repeat(refine Sg ?_;(conv=>whnf))
     refine Qc Qa (e := ty49) (off := 1) rfl ge rfl rfl rfl (Qaw e) fun wf gf hof => ?_; (conv=>whnf);repeat(refine Sg ?_;(conv=>whnf))
     have hBn : ∀ a,B = some a → a.block ≠ p11 := fun a ha => by have := (hBl a ha).2; omega
     refine ⟨(⟨0,e,⟨#[]⟩,t,0,0⟩,Q3 L (nb 115 (x0 / 16 % 2)) (Qjc L (nb 115 (x0 / 16 % 2)) + 1)),⟨(hPn.only hoe (by omega) (by omega) (by omega) (by omega) hBn).only hof (by omega) (by omega) (by omega) (by omega) hBn,by rw [hof.size,hoe.size]; exact zn,(hmo.only hoe (by omega)).only hof (by omega),hof.at_ (hoe.at_ g9 hne) hne,gf,fun δ hδ => ?_⟩,⟨rfl,rfl,rfl,rfl,rfl,rfl,rfl,rfl,trivial⟩⟩
     have := Q0t hT (s := ⟨0,e,⟨#[]⟩,t,0,0⟩) rfl hδ hsm.1 hsm.2.1 (by rw [hsm.2.2.2,hsm.2.2.1])
     rw [show (⟨0,e,⟨#[]⟩,t,0,0⟩ : Stp).ev.src = nb 115 (x0 / 16 % 2) from hsm.2.2.1] at this
     exact this
   rintro ⟨s,L'⟩ we ⟨hP,z9,hm,g9,g11,hTI⟩
   simp only at hm g11 hTI
   clear hT hnm
   (conv=>whnf);repeat(refine Sg ?_;(conv=>whnf))
   refine ⟨.slice B S.length d,hP.a6.one rfl,?_⟩; (conv=>whnf);repeat(refine Sg ?_;(conv=>whnf))
   refine ⟨Qw2 s,⟨rfl,g11.all⟩,?_⟩; (conv=>whnf);repeat(refine Sg ?_;(conv=>whnf))
   intro pb wb2 hnb; (conv=>whnf);repeat(refine Sg ?_;(conv=>whnf))
   have hPb := hP.ex hnb.ext
   have zb2 := hnb.ext.size
   refine X4 Q3m (l := S) (news := [s]) rfl hPb.own rfl (Q3m.new1 (x := s) hnb) (by simp; omega) (by omega) fun A7 c7 w7 hown7 hg7 hA7 => ?_
   have hr : ∀ q,(q < w8.heap.size ∨ w9.heap.size ≤ q) → B.map (·.block) ≠ some q := fun q hq e => by
    cases B with
    | none => simp at e
    | some a =>
      have := hBl a rfl
      simp at e
      omega
   have x7 : Ext w w7 := Xo hPb.ext hg7 (fun k hk => by have := Qdu hPb.own k hk; omega)
   have a1 := Qjb (n0 := 0) hPb.a1 hg7 (hr _ (by omega))
   have a2 := Qjb (n0 := 0) hPb.a2 hg7 (hr _ (by omega))
   have a6 := Qjb (n0 := 0) hPb.a6 hg7 (hr _ (by omega))
   have a9 := Qjb (n0 := 0) (g9.ext hnb.ext) hg7 (hr _ (by omega))
   have hmb := (hm.ext hnb.ext).keep (hg7.block bm (hm.ext hnb.ext).lt fun e => hr bm (by omega) e.symm)
   have hTI4 := hTI ((x4 % 16 : Nat) : Int) ⟨by omega,by omega⟩
   have hl2 : (S ++ [s]).length = S.length + 1 := by simp
   have z7 := hg7.size
   clear hP hPb hnb g9 g11 hm hTI hg7
   generalize S ++ [s] = S2 at hown7 hTI4 hl2 ⊢
   (conv=>whnf);repeat(refine Sg ?_;(conv=>whnf))
   refine Qc Qa (e := ty98) (off := 22) rfl a6 rfl rfl rfl (by simp [Qg,Value.oneCell']) fun wg gg hog => ?_
   have gg : At wg p6 100 (taC c (Qbv 6) every seed A7 S2.length c7 t) := gg
   (conv=>whnf);repeat(refine Sg ?_;(conv=>whnf))
   refine ⟨.int .i64 t,gg.one rfl,?_⟩; (conv=>whnf);repeat(refine Sg ?_;(conv=>whnf))
   refine ⟨⟨by decide,by decide⟩,?_⟩; (conv=>whnf);repeat(refine Sg ?_;(conv=>whnf))
   refine ⟨.int .i64 (x4:Nat),(hog.at_ a9 (by omega)).one rfl,?_⟩; (conv=>whnf);repeat(refine Sg ?_;(conv=>whnf))
   refine ⟨((x4 % 16 : Nat) : Int),tmn (b := 16) (by decide),?_⟩; (conv=>whnf);repeat(refine Sg ?_;(conv=>whnf))
   refine ⟨t + ((x4 % 16 : Nat) : Int),wrap_i64 ⟨by omega,by omega⟩,?_⟩; (conv=>whnf);repeat(refine Sg ?_;(conv=>whnf))
   refine Qc Qa (e := ty3) (off := 23) rfl gg rfl rfl rfl (by simp [Qg,Value.oneCell']) fun wh gh hoh => ?_
   have gh : At wh p6 100 (taC c (Qbv 6) every seed A7 S2.length c7 (t + ((x4 % 16 : Nat) : Int))) := gh
   (conv=>whnf);repeat(refine Sg ?_;(conv=>whnf))
   have z8 : ((8 + 5 * S2.length : Nat) : Int) = IntKind.i64.wrap (((8 + 5 * S.length : Nat) : Int) + 5) := by
    rw [← wrap_i64 ⟨by omega,by omega⟩]
    omega
   refine ⟨((8 + 5 * S2.length : Nat) : Int),z8,?_⟩; (conv=>whnf);repeat(refine Sg ?_;(conv=>whnf))
   have hAb : ∀ a,A7 = some a → a.block ≠ p6 := fun a ha => by have := (hown7.block ha).1; omega
   refine ⟨(S2,L',A7,c7,t + ((x4 % 16 : Nat) : Int)),by simp only; omega,⟨by simp only; omega,hTI4,(hmb.only hog (by omega)).only hoh (by omega),by rw [hoh.size,hog.size]; omega,⟨hoh.ext (hog.ext x7 (by omega)) (by omega),hoh.at_ (hog.at_ a1 (by omega)) (by omega),hoh.at_ (hog.at_ a2 (by omega)) (by omega),gh,(hown7.keep fun a ha => hog.block _ (hAb a ha)).keep fun a ha => hoh.block _ (hAb a ha)⟩⟩,⟨rfl,rfl,rfl,rfl,rfl,rfl,trivial⟩⟩
 · intro _
   have hn2 : w.heap.size ≤ p2 := by omega
   (conv=>whnf);repeat(refine Sg ?_;(conv=>whnf))
   refine ⟨taC c (Qbv 6) every seed B S.length d t,⟨rfl,hP.a6.all⟩,?_⟩; (conv=>whnf);repeat(refine Sg ?_;(conv=>whnf))
   refine Qc Qa (e := ty100) rfl hP.a2 rfl rfl rfl (by simp [Qg,taC,Qah,Value.oneCell']) fun wf gf hof => ?_
   have gf : At wf p2 100 (taC c (Qbv 6) every seed B S.length d t) := gf
   (conv=>whnf);repeat(refine Sg ?_;(conv=>whnf))
   refine ⟨taC c (Qbv 6) every seed B S.length d t,⟨rfl,gf.all⟩,?_⟩; (conv=>whnf);repeat(refine Sg ?_;(conv=>whnf))
   exact ⟨c,every,seed,B,d,S,L,t,rfl,hcf,hT,hk,(hP.own.keep fun a ha => hof.block _ (by have := (hP.own.block ha).1; omega)).sl Quv,hof.ext hP.ext hn2⟩
theorem Qxc (S:List Stp) (k:Nat) (hk:k < S.length) : Qel (S.take (k + 1)) = Qel (S.take k) ++ if S[k].what = 0 then [S[k].ev] else [] := by
 rw [Qck S k hk,Qir]
set_option maxHeartbeats 2000000 in
theorem Ql4 (bs:List Nat) (A:Option Addr) (cp:Nat) (w:World) (hg:Gl w) (hkn:Qva w) (hs:Sl u8C 1 w A bs) (hb:∀ x ∈ bs,x < 256) :
 Cal Tryz.prog 7 [.slice A bs.length cp] w fun r w' => Ext w w' ∧ (r = .tuple #[.slice none 0 0,ty32.zero,.int .i64 0,.bool false] ∨
  ∃ c every seed B d l t,r = .tuple #[.slice B l.length d,.agg (Qah c (Qbv 6) every seed).toArray,.int .i64 t,.bool true] ∧ Qrk c = true ∧ Qd6 l ∧ l.length ≤ 60 ∧ (0 ≤ t ∧ t ≤ 1000000) ∧ SlE w' B l) := by
 refine Fi Tryz.func7 rfl _ rfl rfl ?_;conv=>whnf
 intro p3 w1 hn1; (conv=>whnf);repeat(refine Sg ?_;(conv=>whnf))
 have g3 : At w1 p3 32 (Qg ty32.zero) := hn1.At
 have hx := hn1.ext
 have e3 := hn1.block
 have s1 := hn1.size
 clear hn1
 constructor
 · intro h
   (conv=>whnf);repeat(refine Sg ?_;(conv=>whnf))
   refine Qc Qa (e := ty32) rfl g3 rfl rfl rfl (by simp [Qg,Value.oneCell']) fun w2 g2 ho2 => ?_
   have g2 : At w2 p3 32 (Qg ty32.zero) := g2
   (conv=>whnf);repeat(refine Sg ?_;(conv=>whnf))
   refine ⟨Qg ty32.zero,⟨rfl,g2.all⟩,?_⟩; (conv=>whnf);repeat(refine Sg ?_;(conv=>whnf))
   exact ⟨ho2.ext hx (by omega),.inl rfl⟩
 intro h
 have hl : bs.length ≤ 300 := by
  have : ¬ (300:Int) < bs.length := by simpa using h
  omega
 (conv=>whnf);repeat(refine Sg ?_;(conv=>whnf))
 refine (Qmk bs A cp w1 (hg.ext hx) (hkn.ext hx) (hs.ext hx) hb hl).mono ?_
 rintro _ w2 ⟨c,every,seed,B,d,S,L,t,rfl,hcf,hT,hk,hsS,hx2⟩
 (conv=>whnf);repeat(refine Sg ?_;(conv=>whnf))
 intro p6 w3 hn3; (conv=>whnf);repeat(refine Sg ?_;(conv=>whnf))
 refine Qc Qa (e := ty100) rfl hn3.At rfl rfl rfl (by simp [Qg,taC,Qah,Value.oneCell']) fun w4 g6 ho4 => ?_
 have g6 : At w4 p6 100 (taC c (Qbv 6) every seed B S.length d t) := g6
 have e6 := hn3.block
 have hx24 : Ext w2 w4 := ho4.ext hn3.ext (by omega)
 have s2 := hx2.size
 replace hx := (hx.trans hx2).trans hx24
 replace g3 := (g3.ext hx2).ext hx24
 replace hsS := hsS.ext hx24
 clear ho4 hn3 hx2 hx24
 (conv=>whnf);repeat(refine Sg ?_;(conv=>whnf))
 refine ⟨.slice B S.length d,g6.one rfl,?_⟩; (conv=>whnf);repeat(refine Sg ?_;(conv=>whnf))
 refine Qj Qa (fun (q:Nat × Option Addr × Nat × List Ev) w' => q.1 ≤ S.length ∧ q.2.2.2 = Qel (S.take q.1) ∧ Own evC 8 49 w4.heap.size w' q.2.1 q.2.2.1 q.2.2.2 ∧ Ext w4 w')
  (fun | (k,B',d',U) => [(3,.pointer (some ⟨p3,0,none⟩)),(6,.pointer (some ⟨p6,0,none⟩)),(7,.slice B' U.length d'),(17,.slice B S.length d),(18,.int .i64 S.length),(19,.int .i64 (k:Nat))]) (fun q => S.length - q.1) (0,none,0,[]) ⟨Nat.zero_le _,rfl,Own.nil,Ext.refl _⟩ ⟨rfl,rfl,rfl,rfl,rfl,rfl,trivial⟩ ?_
 rintro ⟨k,B',d',U⟩ w5 ⟨hkl,hU,hown,hx5⟩
 simp only at hkl hU hown
 have hUl : U.length ≤ k := by
  rw [hU]
  have := Q0v (S.take k)
  rw [List.length_take] at this
  omega
 conv=>whnf
 constructor
 · intro hlt
   have hlt : k < S.length := by simpa using hlt
   obtain ⟨a,rfl,hc⟩ := (hsS.ext hx5).get hlt
   have htk := Qxc S k hlt
   rw [← hU] at htk
   generalize S[k] = x at hc htk
   (conv=>whnf);repeat(refine Sg ?_;(conv=>whnf))
   refine ⟨a,⟨rfl,by omega,by omega⟩,?_⟩; (conv=>whnf);repeat(refine Sg ?_;(conv=>whnf))
   refine ⟨Qw2 x,⟨rfl,hc⟩,?_⟩; (conv=>whnf);repeat(refine Sg ?_;(conv=>whnf))
   intro p9 w6 hn6; (conv=>whnf);repeat(refine Sg ?_;(conv=>whnf))
   refine Qc Qa (e := ty104) rfl hn6.At rfl rfl rfl (Quw x) fun w7 g9 ho7 => ?_
   have g9 : At w7 p9 104 (Qw2 x) := g9
   have hx57 : Ext w5 w7 := ho7.ext hn6.ext (by rw [hn6.block]; exact Nat.le_refl _)
   clear ho7 hn6
   replace hx5 := hx5.trans hx57
   replace hown := hown.ext hx57
   (conv=>whnf);repeat(refine Sg ?_;(conv=>whnf))
   refine ⟨vi x.what,g9.one rfl,?_⟩; (conv=>whnf);repeat(refine Sg ?_;(conv=>whnf))
   constructor
   · intro hq
     have hq : x.what = 0 := by simpa using hq
     rw [if_pos hq] at htk
     (conv=>whnf);repeat(refine Sg ?_;(conv=>whnf))
     refine ⟨evC x.ev,⟨rfl,At.sub (pre := [vi x.what]) (post := [.string x.person,vi x.now,vi x.keep,vi x.of_]) g9⟩,?_⟩; (conv=>whnf);repeat(refine Sg ?_;(conv=>whnf))
     intro b8 w8 hn8; (conv=>whnf);repeat(refine Sg ?_;(conv=>whnf))
     refine X4 Qoa (l := U) (news := [x.ev]) rfl (hown.ext hn8.ext) rfl (Qoa.new1 (x := x.ev) hn8) (by simp; omega) (hx5.trans hn8.ext).size fun A9 c9 w9 hown9 hg9 hA9 => ?_
     have hx9 := Xo (hx5.trans hn8.ext) hg9 (Qdu (hown.ext hn8.ext))
     generalize U ++ [x.ev] = U2 at hown9 htk ⊢
     (conv=>whnf);repeat(refine Sg ?_;(conv=>whnf))
     refine ⟨_,wrap_succ (by omega),?_⟩; (conv=>whnf);repeat(refine Sg ?_;(conv=>whnf))
     exact ⟨(k + 1,A9,c9,U2),by simp only; omega,⟨by simp only; omega,htk.symm,hown9,hx9⟩,⟨rfl,rfl,rfl,rfl,rfl,rfl,trivial⟩⟩
   · intro hq
     have hq : ¬ x.what = 0 := by simpa using hq
     rw [if_neg hq,List.append_nil] at htk
     (conv=>whnf);repeat(refine Sg ?_;(conv=>whnf))
     refine ⟨_,wrap_succ (by omega),?_⟩; (conv=>whnf);repeat(refine Sg ?_;(conv=>whnf))
     exact ⟨(k + 1,B',d',U),by simp only; omega,⟨by simp only; omega,htk.symm,hown,hx5⟩,⟨rfl,rfl,rfl,rfl,rfl,rfl,trivial⟩⟩
 · intro hge
   have hge : S.length ≤ k := by simpa using hge
   rw [List.take_of_length_le hge] at hU
   have hap := hT.ap
   rw [← hU] at hap
   have hte := hT.end_
   have hne : p6 ≠ p3 := by omega
   have hp3 : w.heap.size ≤ p3 := by omega
   have hown3 : ∀ a,B' = some a → a.block ≠ p3 := fun a ha => by have := (hown.block ha).1; have := g3.lt; omega
   replace g3 := g3.ext hx5
   replace g6 := g6.ext hx5
   replace hx := hx.trans hx5
   clear hsS hx5
   (conv=>whnf);repeat(refine Sg ?_;(conv=>whnf))
   refine Dr (.mods (fun q => q = p3)) [0,1,2,3,4,5,6,7,8] [] ?_;conv=>whnf
   have hxd : Ext w5 w5.drew := (Ext.refl w5).drew
   replace g3 := g3.ext hxd
   replace g6 := g6.ext hxd
   replace hx := hx.trans hxd
   replace hown := hown.ext hxd
   generalize w5.drew = w6 at g3 g6 hx hown ⊢
   refine ⟨Qah c (Qbv 6) every seed,⟨rfl,At.sub (pre := []) (post := [.slice B S.length d,vi t]) g6,by rw [add_block]; exact hne⟩,?_⟩;conv=>whnf
   refine ⟨vi t,⟨g6.one rfl,by rw [add_block]; exact hne⟩,?_⟩;conv=>whnf
   refine Qc Qa (e := ty32) rfl g3 rfl rfl rfl (by simp [Qg,Qah,Value.oneCell']) fun w7 g7 ho7 => ?_
   have g7 : At w7 p3 32 (Qah c (Qbv 6) every seed) := g7
   refine ⟨Qh ho7 rfl,?_⟩; (conv=>whnf);repeat(refine Sg ?_;(conv=>whnf))
   refine ⟨Qah c (Qbv 6) every seed,⟨rfl,g7.all⟩,?_⟩; (conv=>whnf);repeat(refine Sg ?_;(conv=>whnf))
   refine ⟨ho7.ext hx hp3,.inr ⟨c,every,seed,B',d',U,t,rfl,hcf,hap,by omega,⟨by omega,by omega⟩,?_⟩⟩
   exact (hown.keep fun a ha => ho7.block _ (hown3 a ha)).sl Qa5
theorem Qb3 (w:World) (hg:Gl w) (hkn:Qva w) : Cal Tryz.prog 8 [] w fun r w' => r = .bool true ∧ Ext w w' := by
 refine Fi Tryz.func8 rfl _ rfl rfl ?_;conv=>whnf
 refine (Qmk [] none 0 w hg hkn Sl.nil (by simp) (by simp)).mono ?_
 rintro _ w2 ⟨c,every,seed,B,d,S,L,t,rfl,hcf,hT,hk,hsS,hx2⟩
 have h0 : S = [] := List.eq_nil_of_length_eq_zero (by simp at hk; omega)
 have ht : t = 1000 := by
  have := hT.end_
  rw [h0] at this
  simp at this
  omega
 subst ht
 (conv=>whnf);repeat(refine Sg ?_;(conv=>whnf))
 exact ⟨rfl,hx2⟩
def Q7a : List ByteArray := [⟨#[112,48]⟩,⟨#[112,49]⟩,⟨#[112,50]⟩,⟨#[112,51]⟩]
def Q58 : List ByteArray := [⟨#[105,48]⟩,⟨#[105,49]⟩,⟨#[105,50]⟩,⟨#[105,51]⟩,⟨#[105,52]⟩,⟨#[105,53]⟩]
theorem Qeu (w:World) : Cal Tryz.prog 9 [] w fun r w' => r = .slice (some ⟨w.heap.size,0,none⟩) 4 4 ∧ At w' w.heap.size 9 (Q7a.map Value.string) ∧ Ext w w' := by
 refine Fi Tryz.func9 rfl _ rfl rfl ?_;conv=>whnf
 intro b w1 hn1; (conv=>whnf);repeat(refine Sg ?_;(conv=>whnf))
 obtain rfl := hn1.block
 exact ⟨rfl,hn1.At,hn1.ext⟩
theorem Qgq {w:World} {b t:Nat} {l:List ByteArray} (h:At w b t (l.map Value.string)) {k:Nat} {x:ByteArray} (hk:l[k]? = some x) : w.cell? ((⟨b,0,none⟩ : Addr).add (k * 1)) = some (.string x) := by
 rw [Qx,Nat.mul_one,h.cell,List.getElem?_map,hk]
 rfl
end Go.Proofs.YtopncieoolkhjaaGreatDoor
