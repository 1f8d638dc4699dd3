/- Several texts in one: Hash, Hash2, Shard1, Shard2, Shard3, Shard4, Shard5. -/
import Derived.Test.YteabekcdcphjpaaGreatDoorGB
import Derived.Laws.MakeOwn
set_option linter.unusedVariables false
set_option linter.unusedSimpArgs false
namespace Go.Proofs.YteabekcdcphjpaaGreatDoor
open Go.Se Go.RowKit
def Q9h (a b:Int) : Int := IntKind.u64.wrap (BitVec.ofInt 64 a ^^^ BitVec.ofInt 64 b).toNat
def Xaa (a b:Int) : Int := IntKind.u64.wrap (a * b)
def hx (h b:Int) : Int := Xaa (Q9h h b) 1099511628211
def hbytes (h:Int) (l:List UInt8) : Int := l.foldl (fun h c => hx h c.toNat) h
def hword (h:Int) (s:ByteArray) : Int := hx (hbytes h s.data.toList) 256
def hstep (h:Int) (n:Nat) (m:Int) : Int := Xaa (Q9h h (h.fdiv (2 ^ n))) m
def hfin (h:Int) : Int :=
 let a := hstep h 31 9202087104158670213
 let b := hstep a 27 9356908073163150413
 Q9h b (b.fdiv (2 ^ 33))
def hash (seed:Int) (words:List ByteArray) : Int := hfin (words.foldl hword (IntKind.u64.wrap (seed + 11400714819323198485)))
abbrev Xbg := Sl (fun s:ByteArray => [Value.string s]) 1
theorem Q1j (c:UInt8) : ((c.toNat : Nat) : Int) = IntKind.u64.wrap (c.toNat : Nat) := wrap_u64 ⟨by omega,by have := c.toNat_lt; omega⟩
theorem Q11 (s:ByteArray) (k:Nat) (h:k < s.size) : s[k]? = some (s.data.toList[k]'(by simpa using h)) := by
 rw [getElem?_pos s k h]
 rfl
theorem Qup (h:Int) (l:List UInt8) (k:Nat) (hk:k < l.length) : hx (hbytes h (l.take k)) (l[k]).toNat = hbytes h (l.take (k + 1)) := by
 rw [List.take_succ_eq_append_getElem hk,hbytes,hbytes,List.foldl_append]; rfl
theorem foldl_snoc {α β:Type} (f:β → α → β) (b:β) (l:List α) (k:Nat) (hk:k < l.length) : f ((l.take k).foldl f b) l[k] = (l.take (k + 1)).foldl f b := by
 rw [List.take_succ_eq_append_getElem hk,List.foldl_append]; rfl
theorem Q16 (seed:Int) (words:List ByteArray) (A:Option Addr) (c:Nat) (w:World) (hs:Xbg w A words) (hl:words.length < 1000000000000) (hb:∀ s ∈ words,s.size < 1000000000000000) :
 Cal Tryz.prog 97 [.int .u64 seed,.slice A words.length c] w fun r w' => r = .int .u64 (hash seed words) ∧ w' = w := by
 refine Fi Tryz.func97 rfl _ rfl rfl ?_;conv=>whnf
 refine ⟨_,rfl,?_⟩;conv=>whnf
 refine Qg Qa (fun (k:Nat) w' => k ≤ words.length ∧ w' = w)
  (fun k => [(11,.slice A words.length c),(12,.int .i64 words.length),(13,.int .i64 k),(5,.int .u64 ((words.take k).foldl hword (IntKind.u64.wrap (seed + 11400714819323198485))))]) (fun k => words.length - k) 0 ⟨by omega,rfl⟩ ⟨rfl,rfl,rfl,rfl,trivial⟩ ?_
 rintro k w1 ⟨hk,rfl⟩
 conv=>whnf
 constructor
 · intro hlt
   have hlt : k < words.length := by simpa using hlt
   have hsm := hb _ (List.getElem_mem hlt)
   conv=>whnf
   obtain ⟨a,rfl,hc⟩ := hs.get hlt
   refine ⟨a,⟨rfl,by omega,by omega⟩,?_⟩;conv=>whnf
   refine ⟨.string words[k],Qv hc,?_⟩;conv=>whnf
   generalize hh : (words.take k).foldl hword (IntKind.u64.wrap (seed + 11400714819323198485)) = h0
   refine Qg Qa (fun (j:Nat) w' => j ≤ words[k].size ∧ w' = w1)
    (fun j => [(11,.slice (some a) words.length c),(12,.int .i64 words.length),(13,.int .i64 k),(7,.string words[k]),(18,.int .i64 words[k].size),(19,.int .i64 j),(5,.int .u64 (hbytes h0 (words[k].data.toList.take j)))]) (fun j => words[k].size - j) 0 ⟨by omega,rfl⟩ ⟨rfl,rfl,rfl,rfl,rfl,rfl,rfl,trivial⟩ ?_
   rintro j w2 ⟨hj,rfl⟩
   conv=>whnf
   constructor
   · intro hjl
     have hjl : j < words[k].size := by simpa using hjl
     have hjl' : j < words[k].data.toList.length := by simpa using hjl
     conv=>whnf
     refine ⟨words[k].data.toList[j],⟨by omega,Q11 _ _ hjl⟩,?_⟩;conv=>whnf
     refine ⟨_,Q1j _,?_⟩;conv=>whnf
     refine ⟨_,rfl,?_⟩;conv=>whnf
     refine ⟨_,rfl,?_⟩;conv=>whnf
     refine ⟨_,wrap_succ (by omega),?_⟩;conv=>whnf
     refine ⟨j + 1,by omega,⟨by omega,rfl⟩,⟨rfl,rfl,rfl,rfl,rfl,rfl,?_,trivial⟩⟩
     rw [← Qup _ _ _ hjl']; rfl
   · intro hjl
     have hjl : j = words[k].size := by have : words[k].size ≤ j := by simpa using hjl
                                        omega
     conv=>whnf
     refine ⟨_,rfl,?_⟩;conv=>whnf
     refine ⟨_,rfl,?_⟩;conv=>whnf
     refine ⟨_,wrap_succ (by omega),?_⟩;conv=>whnf
     refine ⟨k + 1,by omega,⟨by omega,rfl⟩,⟨rfl,rfl,rfl,?_,trivial⟩⟩
     rw [← foldl_snoc hword _ words k hlt,hh,List.take_of_length_le (by simp; omega)]; rfl
 · intro hge
   have hge : words.length ≤ k := by simpa using hge
   rw [List.take_of_length_le hge]
   conv=>whnf
   refine ⟨_,⟨by decide,rfl⟩,?_⟩;conv=>whnf
   refine ⟨_,rfl,?_⟩;conv=>whnf
   refine ⟨_,rfl,?_⟩;conv=>whnf
   refine ⟨_,⟨by decide,rfl⟩,?_⟩;conv=>whnf
   refine ⟨_,rfl,?_⟩;conv=>whnf
   refine ⟨_,rfl,?_⟩;conv=>whnf
   refine ⟨_,⟨by decide,rfl⟩,?_⟩;conv=>whnf
   refine ⟨_,rfl,?_⟩;conv=>whnf
   exact ⟨rfl,rfl⟩
def hk (h0:Int) (s:ByteArray) (j:Nat) : Int := if j ≤ s.size then hbytes h0 (s.data.toList.take j) else hword h0 s
theorem mask32 (x:Nat) (h:x < 18446744073709551616) : ((x % 4294967296 : Nat) : Int) = IntKind.u64.wrap (BitVec.ofInt 64 (x:Int) &&& BitVec.ofInt 64 4294967295).toNat := by
 have e : (BitVec.ofInt 64 (x:Int) &&& BitVec.ofInt 64 4294967295).toNat = x % 4294967296 := by
  rw [BitVec.toNat_and]
  have h1 : (BitVec.ofInt 64 (x:Int)).toNat = x := by rw [BitVec.ofInt_natCast,BitVec.toNat_ofNat]; exact Nat.mod_eq_of_lt h
  have h2 : (BitVec.ofInt 64 4294967295).toNat = 2 ^ 32 - 1 := by decide
  rw [h1,h2,Nat.and_two_pow_sub_one_eq_mod]
 rw [e]; exact wrap_u64 ⟨by omega,by omega⟩
theorem Q3y (x:Nat) : ((x / 4294967296 : Nat) : Int) = (x:Int).fdiv (2 ^ (min (32:Int).toNat IntKind.u64.bits)) := by
 have : (2:Int) ^ (min (32:Int).toNat IntKind.u64.bits) = 4294967296 := by decide
 rw [this,Int.fdiv_eq_ediv_of_nonneg _ (by omega)]; omega
theorem Xa5 (x0 x1 y0 y1:Nat) (h0:x0 < 4294967296) (h1:x1 < 4294967296) (k0:y0 < 4294967296) (k1:y1 < 4294967296) :
 x0 * y0 < 18446744073709551616 ∧ x1 * y0 + x0 * y0 / 4294967296 < 18446744073709551616 ∧
 (x1 * y0 + x0 * y0 / 4294967296) % 4294967296 + x0 * y1 < 18446744073709551616 ∧
 x1 * y1 + (x1 * y0 + x0 * y0 / 4294967296) / 4294967296 + ((x1 * y0 + x0 * y0 / 4294967296) % 4294967296 + x0 * y1) / 4294967296 < 18446744073709551616 ∧
 x1 * y1 < 18446744073709551616 ∧ x0 * y1 < 18446744073709551616 ∧ x1 * y0 < 18446744073709551616 ∧
 (x1 * 4294967296 + x0) * (y1 * 4294967296 + y0) / 18446744073709551616 = x1 * y1 + (x1 * y0 + x0 * y0 / 4294967296) / 4294967296 + ((x1 * y0 + x0 * y0 / 4294967296) % 4294967296 + x0 * y1) / 4294967296 ∧
 (x1 * 4294967296 + x0) * (y1 * 4294967296 + y0) / 18446744073709551616 = x1 * y1 + x1 * y0 / 4294967296 + x0 * y1 / 4294967296 + (x0 * y0 / 4294967296 + x1 * y0 % 4294967296 + x0 * y1 % 4294967296) / 4294967296 := by
 have a1 : x0 * y0 ≤ 4294967295 * 4294967295 := Nat.mul_le_mul (by omega) (by omega)
 have a2 : x0 * y1 ≤ 4294967295 * 4294967295 := Nat.mul_le_mul (by omega) (by omega)
 have a3 : x1 * y0 ≤ 4294967295 * 4294967295 := Nat.mul_le_mul (by omega) (by omega)
 have a4 : x1 * y1 ≤ 4294967295 * 4294967295 := Nat.mul_le_mul (by omega) (by omega)
 have e : (x1 * 4294967296 + x0) * (y1 * 4294967296 + y0) = x1 * y1 * 18446744073709551616 + (x1 * y0 + x0 * y1) * 4294967296 + x0 * y0 := by grind
 rw [e]
 generalize x0 * y0 = p at *
 generalize x0 * y1 = q at *
 generalize x1 * y0 = r at *
 generalize x1 * y1 = s at *
 refine ⟨?_,?_,?_,?_,?_,?_,?_,?_,?_⟩ <;> omega
theorem Q37 (x:Nat) : x = x / 4294967296 * 4294967296 + x % 4294967296 := by omega
theorem Xa9 {z:Nat} (h:z < 18446744073709551616) : (z:Int) = IntKind.u64.wrap (z:Nat) := wrap_u64 ⟨by omega,by omega⟩
theorem Qx4 {a b:Nat} (h:a * b < 18446744073709551616) : ((a * b : Nat) : Int) = IntKind.u64.wrap ((a:Int) * (b:Int)) := by
 rw [← Int.natCast_mul]; exact Xa9 h
theorem Qx3 {a b:Nat} (h:a + b < 18446744073709551616) : ((a + b : Nat) : Int) = IntKind.u64.wrap ((a:Int) + (b:Int)) := by
 rw [← Int.natCast_add]; exact Xa9 h
theorem Qzg (x y:Nat) (w:World) (hx:x < 18446744073709551616) (hy:y < 18446744073709551616) :
 Cal Tryz.prog 169 [.int .u64 (x:Int),.int .u64 (y:Int)] w fun r w' => ∃ lo,r = .tuple #[.int .u64 ((x * y / 18446744073709551616 : Nat) : Int),.int .u64 lo] ∧ w' = w := by
 obtain ⟨b1,b2,b3,b4,b5,b6,b7,b8,_⟩ := Xa5 (x % 4294967296) (x / 4294967296) (y % 4294967296) (y / 4294967296) (by omega) (by omega) (by omega) (by omega)
 rw [← Q37 x,← Q37 y] at b8
 refine Fi Tryz.func169 rfl _ rfl rfl ?_;conv=>whnf
 refine ⟨_,mask32 x hx,?_⟩;conv=>whnf
 refine ⟨_,⟨by decide,Q3y x⟩,?_⟩;conv=>whnf
 refine ⟨_,mask32 y hy,?_⟩;conv=>whnf
 refine ⟨_,⟨by decide,Q3y y⟩,?_⟩;conv=>whnf
 refine ⟨_,Qx4 b1,?_⟩;conv=>whnf
 refine ⟨_,Qx4 b7,?_⟩;conv=>whnf
 refine ⟨_,⟨by decide,Q3y _⟩,?_⟩;conv=>whnf
 refine ⟨_,Qx3 b2,?_⟩;conv=>whnf
 refine ⟨_,mask32 _ b2,?_⟩;conv=>whnf
 refine ⟨_,⟨by decide,Q3y _⟩,?_⟩;conv=>whnf
 refine ⟨_,Qx4 b6,?_⟩;conv=>whnf
 refine ⟨_,Qx3 b3,?_⟩;conv=>whnf
 refine ⟨_,Qx4 b5,?_⟩;conv=>whnf
 refine ⟨_,Qx3 (by omega),?_⟩;conv=>whnf
 refine ⟨_,⟨by decide,Q3y _⟩,?_⟩;conv=>whnf
 refine ⟨_,Qx3 b4,?_⟩;conv=>whnf
 refine ⟨_,rfl,?_⟩;conv=>whnf
 rw [b8]
 exact ⟨_,rfl,rfl⟩
theorem Qn8 (h n:Nat) (hh:h < 18446744073709551616) (hn:0 < n) : h * n / 18446744073709551616 < n := by
 rw [Nat.div_lt_iff_lt_mul (by omega),Nat.mul_comm n]; exact Nat.mul_lt_mul_of_pos_right hh hn
def below (h:Nat) (n:Int) : Int := if n < 1 then 0 else ((h * n.toNat / 18446744073709551616 : Nat) : Int)
theorem Qfq (h:Nat) (n:Int) (hh:h < 18446744073709551616) : 0 ≤ below h n ∧ (1 ≤ n → below h n < n) := by
 unfold below
 split
 · omega
 · have := Qn8 h n.toNat hh (by omega)
   omega
theorem Qyl (h:Nat) (n:Int) (w:World) (hh:h < 18446744073709551616) (hn:n < 9223372036854775808) :
 Cal Tryz.prog 96 [.int .u64 (h:Int),.int .i64 n] w fun r w' => r = .int .i64 (below h n) ∧ w' = w := by
 refine Fi Tryz.func96 rfl _ rfl rfl ?_;conv=>whnf
 constructor
 · intro h1
   have h1 : n < 1 := by simpa using h1
   conv=>whnf
   exact ⟨by unfold below; rw [if_pos h1],rfl⟩
 · intro h1
   have h1 : 1 ≤ n := by simpa using h1
   obtain ⟨m,rfl⟩ : ∃ m : Nat,n = m := ⟨n.toNat,by omega⟩
   conv=>whnf
   refine ⟨_,Xa9 (by omega),?_⟩;conv=>whnf
   refine (Qzg h m w hh (by omega)).mono ?_
   rintro r w1 ⟨lo,rfl,rfl⟩
   conv=>whnf
   have := Qn8 h m hh (by omega)
   refine ⟨_,wrap_i64 ⟨by omega,by omega⟩,?_⟩;conv=>whnf
   exact ⟨by unfold below; rw [if_neg (by omega)]; simp,rfl⟩
def Qpm (p:ByteArray) : Nat := (hash 0 [p]).toNat
theorem Qq0 (z:Int) : 0 ≤ IntKind.u64.wrap z ∧ IntKind.u64.wrap z < 18446744073709551616 := by
 simp only [IntKind.wrap,IntKind.bits,IntKind.signed]
 simp
 omega
theorem Qn2 (s:Int) (l:List ByteArray) : 0 ≤ hash s l ∧ hash s l < 18446744073709551616 := Qq0 _
theorem Q5q (p:ByteArray) : hash 0 [p] = (Qpm p:Int) := by have := Qn2 0 [p]; unfold Qpm; omega
theorem Qkt (p:ByteArray) : Qpm p < 18446744073709551616 := by have := Qn2 0 [p]; unfold Qpm; omega
def Qbf (p:ByteArray) (n:Int) : Int := below (Qpm p) n
theorem Q8y {w w1:World} {b t:Nat} {l:List ByteArray} (h:New w w1 b (.cells (l.flatMap fun s => [Value.string s]).toArray t)) : Xbg w1 (some ⟨b,0,none⟩) l := Qcf (enc := fun s : ByteArray => [Value.string s]) (sz := 1) (fun _ => rfl) h
theorem Q2v (p:ByteArray) (n:Int) (w:World) (hp:p.size < 1000000000000000) (hn:n < 9223372036854775808) :
 Cal Tryz.prog 32 [.string p,.int .i64 n] w fun r w' => r = .int .i64 (Qbf p n) ∧ Ext w w' := by
 refine Fi Tryz.func32 rfl _ rfl rfl ?_;conv=>whnf
 constructor
 · intro h1
   have h1 : n < 1 := by simpa using h1
   conv=>whnf
   exact ⟨by unfold Qbf below; rw [if_pos h1],Ext.refl _⟩
 · intro h1
   conv=>whnf
   intro b w1 hnew
   conv=>whnf
   refine (Q16 0 [p] _ _ w1 (Q8y (l := [p]) hnew) (by simp) (by simpa using hp)).mono ?_
   rintro r w2 ⟨rfl,rfl⟩
   rw [Q5q]
   conv=>whnf
   refine (Qyl (Qpm p) n w2 (Qkt p) hn).mono ?_
   rintro r w3 ⟨rfl,rfl⟩
   conv=>whnf
   exact ⟨rfl,hnew.ext⟩
theorem Q91 (a b:Ev) (ox oy:Operand) : Qq9 Tryz.prog 66 ox oy (evV a) (evV b) (decide (a = b)) := by
 have h := Qjz (ox := ox) (oy := oy) Qa st66 (xs := evC a) (ys := evC b) (b := decide (a.src = b.src) && (decide (a.num = b.num) && (decide (a.at_ = b.at_) && (decide (a.kind = b.kind) && (decide (a.person = b.person) && (decide (a.item = b.item) && (decide (a.val = b.val) && (decide (a.text = b.text) && true)))))))) rfl
 have e : (decide (a.src = b.src) && (decide (a.num = b.num) && (decide (a.at_ = b.at_) && (decide (a.kind = b.kind) && (decide (a.person = b.person) && (decide (a.item = b.item) && (decide (a.val = b.val) && (decide (a.text = b.text) && true)))))))) = decide (a = b) := by
  rw [Bool.eq_iff_iff]
  simp only [Bool.and_eq_true,decide_eq_true_eq,Ev.ext_iff,and_true]
 rw [e] at h
 exact h
def Q9o (e:Ev) : Bool := decide (e.kind = 11) || decide (e.kind = 12) || decide (e.kind = 13)
def Qj1 (n k:Int) (e:Ev) : Bool := Q9o e || decide (Qbf e.person n = k)
def Qbn (l:List Ev) (n k:Int) : List Ev := l.filter (Qj1 n k)
theorem Qun {α:Type} (p:α → Bool) (l:List α) (k:Nat) (hk:k < l.length) : (l.take (k + 1)).filter p = (l.take k).filter p ++ if p l[k] then [l[k]] else [] := by
 rw [List.take_succ_eq_append_getElem hk,List.filter_append]
 cases h : p l[k] <;> simp [h]
theorem Xam : Tryz.prog.underlying 24 = some (.slice 66) := by kernel_rfl
theorem make_one {P:Program} {t e:TypeId} {ety:TyE} (ht:P.underlying t = some (.slice e)) (he:Xp P e = some ety) {bytes:Nat} (hby:(P.info? e).map (·.bytes) = some bytes) (hsz:ety.size = 1) {z:Value} (hz:Qm ety.zero = [z]) {w:World} {R:Value → World → Prop} (n:Nat)
 (hn:n * bytes ≤ 140737488355328) (hn':n < 9223372036854775808)
 (hk:∀ b w1,New w w1 b (.cells (List.replicate n z).toArray e) → R (.slice (some ⟨b,0,none⟩) n n) w1) : Qkj P (Instr.makeSlice t (.int .i64 (n:Int)) (.int .i64 (n:Int))) w R := by
 obtain ⟨i,_,hi,_,hz1,_,hs1,_⟩ := Xe he
 have hby' : i.bytes = bytes := by rw [hi] at hby; simpa using hby
 have hzc : ety.zero.cells = #[z] := by apply Array.ext'; rw [Qa1,hz]
 have hw : IntKind.i64.wrap (n:Int) = n := (wrap_i64 ⟨by omega,by omega⟩).symm
 have hcells : (Array.map (fun x => ety.zero.cells[x % ety.zero.cells.size]!) (Array.range n)) = (List.replicate n z).toArray := by
  apply Array.ext'
  rw [hzc]
  simp only [Array.toList_map,Array.toList_range]
  apply List.ext_getElem
  · simp
  · intro j h1 h2
    simp [Nat.mod_one]
 have hb : (i.bytes : Int) * (n:Int) ≤ 281474976710656 := by
  have : ((n * bytes : Nat) : Int) ≤ 140737488355328 := by omega
  rw [Int.natCast_mul,Int.mul_comm] at this
  rw [hby']; omega
 have hr := run_make (P := P) w t e i ety.zero ht hi hz1 .i64 .i64 n n (by omega) (by omega) hb (by omega)
 simp only [Int.toNat_natCast] at hr
 refine ⟨_,_,hr,hk w.heap.size _ ⟨?_,rfl⟩⟩
 rw [hs1,hsz,Nat.mul_one]
 unfold madeCells
 rw [hcells]
structure PL (base:Nat) (w:World) (pb n:Nat) (A:Nat → Option Addr) (c:Nat → Nat) (f:Nat → List Ev) : Prop where
 at_ : At w pb 24 ((List.range n).map fun k => .slice (A k) (f k).length (c k))
 le : base ≤ pb
 own : ∀ k,k < n → Own evC 8 66 base w (A k) (c k) (f k)
 dis : ∀ i j,i < n → j < n → i ≠ j → ∀ a b,A i = some a → A j = some b → a.block ≠ b.block
def upd {α:Type} (f:Nat → α) (j:Nat) (v:α) : Nat → α := fun k => if k = j then v else f k
section
variable {base:Nat} {w w':World} {pb n:Nat} {A:Nat → Option Addr} {c:Nat → Nat} {f:Nat → List Ev}
theorem PL.ne (h:PL base w pb n A c f) {k:Nat} (hk:k < n) {a:Addr} (ha:A k = some a) : a.block ≠ pb := by
 intro e
 rcases (h.own k hk).2 with ⟨hv,_⟩ | ⟨g,cap,cur,hv,_,hg,_⟩
 · rw [ha] at hv; cases hv
 · have hA : A k = some ⟨g,0,none⟩ := by injection hv
   rw [ha] at hA
   injection hA with hA
   subst hA
   have h1 := h.at_
   unfold At at h1
   simp only at e
   rw [← e,hg] at h1
   injection h1 with h1
   injection h1 with _ h1 _
   exact absurd h1 (by decide)
theorem PL.ext (h:PL base w pb n A c f) (hx:Ext w w') : PL base w' pb n A c f := ⟨h.at_.ext hx,h.le,fun k hk => (h.own k hk).ext hx,h.dis⟩
theorem PL.cell (h:PL base w pb n A c f) {k:Nat} (hk:k < n) : w.cell? ((⟨pb,0,none⟩ : Addr).add (k * 1)) = some (.slice (A k) (f k).length (c k)) := by
 rw [Xa,h.at_.cell]
 simp [hk]
theorem PL.app (h:PL base w pb n A c f) {j:Nat} (hj:j < n) {e:Ev} {A6:Option Addr} {c6:Nat} {w5 w6 w7:World} (hx5:Ext w w5)
 (hown:Own evC 8 66 base w6 A6 c6 (f j ++ [e])) (hg:w5.grownBy w6 ((A j).map (·.block))) (hA6:A6 = A j ∨ A6.map (·.block) = (A j).map (·.block) ∨ A6.map (·.block) = some w5.heap.size)
 (hat:At w7 pb 24 (spl ((List.range n).map fun k => .slice (A k) (f k).length (c k)) j [.slice A6 (f j ++ [e]).length c6])) (hon:Only w6 w7 pb) :
 PL base w7 pb n (upd A j A6) (upd c j c6) (upd f j (f j ++ [e])) := by
 have h5 := h.ext hx5
 have hne6 : ∀ a,A6 = some a → a.block ≠ pb := by
  intro a ha
  rcases hA6 with e1 | e1 | e1
  · exact h.ne hj (by rw [← e1,ha])
  · rw [ha] at e1
    cases hAj : A j with
    | none => rw [hAj] at e1; simp at e1
    | some b =>
      rw [hAj] at e1
      simp at e1
      rw [e1]; exact h.ne hj hAj
  · rw [ha] at e1
    simp at e1
    have := h5.at_.lt
    omega
 refine ⟨?_,h.le,?_,?_⟩
 · refine Eq.mp (congrArg (At w7 pb _) ?_) hat
   unfold spl
   apply List.ext_getElem
   · simp; omega
   · intro k h1 h2
     have hk : k < n := by simpa using h2
     simp only [List.getElem_map,List.getElem_range,upd]
     by_cases e1 : k = j
     · subst e1
       simp only [if_true]
       rw [List.getElem_append_left (by simp; omega),List.getElem_append_right (by simp; omega)]
       simp
     · simp only [if_neg e1]
       by_cases e2 : k < j
       · rw [List.getElem_append_left (by simp; omega),List.getElem_append_left (by simp; omega)]
         simp
       · rw [List.getElem_append_right (by simp; omega)]
         simp only [List.getElem_drop,List.getElem_map,List.getElem_range]
         have : j + 1 + (k - (min j n + 1)) = k := by omega
         simp [this]
 · intro k hk
   unfold upd
   by_cases e1 : k = j
   · subst e1
     simp only [if_true]
     exact hown.keep fun a ha => hon.block _ (hne6 a ha)
   · simp only [if_neg e1]
     refine (h5.own k hk).keep fun a ha => ?_
     rw [hon.block _ (h.ne hk ha)]
     refine hg.block _ ((h5.own k hk).block ha).2 fun he => ?_
     cases hAj : A j with
     | none => rw [hAj] at he; simp at he
     | some b =>
       rw [hAj] at he
       simp at he
       exact h.dis k j hk hj e1 a b ha hAj he
 · intro x y hx hy hxy a b ha hb
   unfold upd at ha hb
   have key : ∀ k,k < n → k ≠ j → ∀ a b,A k = some a → A6 = some b → a.block ≠ b.block := by
    intro k hk hkj a b ha hb he
    rcases hA6 with e1 | e1 | e1
    · exact h.dis k j hk hj hkj a b ha (by rw [← e1,hb]) he
    · rw [hb] at e1
      cases hAj : A j with
      | none => rw [hAj] at e1; simp at e1
      | some d =>
        rw [hAj] at e1
        simp at e1
        exact h.dis k j hk hj hkj a d ha hAj (he.trans e1)
    · rw [hb] at e1
      simp at e1
      have := ((h5.own k hk).block ha).2
      omega
   by_cases e1 : x = j
   · subst e1
     simp only [if_true] at ha
     rw [if_neg (fun e => hxy e.symm)] at hb
     exact fun he => key y hy (fun e => hxy e.symm) b a hb ha he.symm
   · rw [if_neg e1] at ha
     by_cases e2 : y = j
     · rw [if_pos e2] at hb
       exact key x hx e1 a b ha hb
     · rw [if_neg e2] at hb
       exact h.dis x y hx hy hxy a b ha hb
end
theorem Xba : Tryz.prog.underlying 48 = some (.slice 24) := by kernel_rfl
theorem Qzt (l:List Ev) (n k:Int) (i:Nat) (hi:i < l.length) : Qbn (l.take (i + 1)) n k = Qbn (l.take i) n k ++ if Qj1 n k l[i] then [l[i]] else [] := Qun _ l i hi
theorem Q26 (l:List Ev) (n k:Int) (i:Nat) : (Qbn (l.take i) n k).length ≤ i := by
 have := List.length_filter_le (Qj1 n k) (l.take i)
 unfold Qbn
 simp at this
 omega
set_option maxHeartbeats 1000000 in
theorem Qs1 (l:List Ev) (A:Option Addr) (c:Nat) (n:Nat) (w:World) (hn:1 ≤ n) (hn':n ≤ 1024) (hs:SlE w A l) (hl:l.length < 1000000) (hp:∀ e ∈ l,e.person.size < 1000000000000000) :
 Cal Tryz.prog 21 [.int .i64 n,.slice A l.length c] w fun r w' => ∃ pb A' c',r = .slice (some ⟨pb,0,none⟩) n n ∧ PL w.heap.size w' pb n A' c' (fun k => Qbn l n k) ∧ Ext w w' := by
 refine Fi Tryz.func21 rfl _ rfl rfl ?_;conv=>whnf
 constructor
 · intro h; simp at h; omega
 · intro _
   conv=>whnf
   refine make_one Xba ty24_ok by24 rfl rfl n (by omega) (by omega) fun pb w0 hnew => ?_
   conv=>whnf
   have hpl0 : PL w.heap.size w0 pb n (fun _ => none) (fun _ => 0) (fun k => Qbn (l.take 0) n k) := by
    refine ⟨?_,by rw [hnew.block]; exact Nat.le_refl _,fun k _ => Own.nil,fun i j _ _ _ a b ha => by cases ha⟩
    have := hnew.At
    refine Eq.mp (congrArg (At w0 pb _) ?_) this
    apply List.ext_getElem
    · simp
    · intro j h1 h2; simp [Qbn]; rfl
   refine Qg Qa (fun (x:Nat × (Nat → Option Addr) × (Nat → Nat)) w' => x.1 ≤ l.length ∧ Ext w w' ∧ PL w.heap.size w' pb n x.2.1 x.2.2 (fun k => Qbn (l.take x.1) n k))
    (fun x => [(0,.int .i64 n),(18,.slice A l.length c),(19,.int .i64 l.length),(20,.int .i64 x.1),(5,.slice (some ⟨pb,0,none⟩) n n)]) (fun x => l.length - x.1) (0,fun _ => none,fun _ => 0) ⟨by simp,hnew.ext,hpl0⟩ ⟨rfl,rfl,rfl,rfl,rfl,trivial⟩ ?_
   rintro ⟨i,A1,c1⟩ w1 ⟨hi,hx,hpl⟩
   simp only at hi hpl
   conv=>whnf
   constructor
   · intro hlt
     have hlt : i < l.length := by simpa using hlt
     obtain ⟨a,rfl,hc⟩ := hs.get hlt
     have hpe := hp _ (List.getElem_mem hlt)
     have hsn := fun k : Int => Qzt l n k i hlt
     have hlen := fun k : Int => Q26 l n k i
     generalize hel : l[i] = e at *
     conv=>whnf
     repeat(refine Sg ?_;(conv=>whnf))
     refine ⟨a,⟨rfl,by omega,by omega⟩,?_⟩;conv=>whnf
     refine ⟨evC e,⟨rfl,hx.cells hc⟩,?_⟩;conv=>whnf
     intro b2 w2 hn2
     conv=>whnf
     refine Qdg Qa (e := ty66) (v := evV e) (off := 0) (by rfl) hn2.At (by rfl) (by decide) (Qe1 e) fun w3 hat hon => ?_
     have hat : At w3 b2 66 (evC e) := hat
     have hx3 : Ext w1 w3 := hon.ext hn2.ext (by rw [hn2.block]; exact Nat.le_refl _)
     have hb2 : w1.heap.size = b2 := hn2.block.symm
     have hpl3 := hpl.ext hx3
     have hxw3 := hx.trans hx3
     conv=>whnf
     refine ⟨_,hat.one rfl,?_⟩;conv=>whnf
     refine Q9 Qa (fun _:Unit => [(0,.int .i64 n),(18,.slice (some a) l.length c),(19,.int .i64 l.length),(20,.int .i64 i),(5,.slice (some ⟨pb,0,none⟩) n n),(7,.pointer (some ⟨b2,0,none⟩)),(40,.bool (Q9o e))]) (fun _ w' => w3 = w') ?_ ?_
     · (conv=>whnf)
       repeat(refine Sg ?_;(conv=>whnf))
       refine ⟨fun h11 => ?_,fun h11 => ?_⟩
       · (conv=>whnf)
         exact ⟨(),rfl,⟨rfl,rfl,rfl,rfl,rfl,rfl,Qt2 (by simp at h11; simp [Q9o,h11]),trivial⟩⟩
       · (conv=>whnf)
         repeat(refine Sg ?_;(conv=>whnf))
         refine ⟨fun h12 => ?_,fun h12 => ?_⟩
         · (conv=>whnf)
           exact ⟨(),rfl,⟨rfl,rfl,rfl,rfl,rfl,rfl,Qt2 (by simp at h12; simp [Q9o,h12]),trivial⟩⟩
         · (conv=>whnf)
           exact ⟨(),rfl,⟨rfl,rfl,rfl,rfl,rfl,rfl,Qt2 (by simp at h11 h12; simp [Q9o,h11,h12]),trivial⟩⟩
     rintro _ w' rfl
     conv=>whnf
     refine ⟨fun hth => ?_,fun hth => ?_⟩
     rotate_left
     · -- of a person
       conv=>whnf
       refine ⟨_,hat.one rfl,?_⟩;conv=>whnf
       refine (Q2v e.person n w3 hpe (by omega)).mono ?_
       rintro r w4 ⟨rfl,hx4⟩
       have hsb := Qfq (Qpm e.person) n (Qkt _)
       obtain ⟨j,hj⟩ : ∃ j : Nat,Qbf e.person n = j := ⟨(Qbf e.person n).toNat,by unfold Qbf; omega⟩
       have hjn : j < n := by unfold Qbf at hj; omega
       rw [hj]
       have hat4 := hat.ext hx4
       have hpl4 := hpl3.ext hx4
       conv=>whnf
       refine Dr (.mods fun g => some g = (A1 j).map (·.block)) [0,1,2,3,4,5,6,7,8,9] [10] ?_;conv=>whnf
       refine ⟨⟨pb,0,none⟩,⟨rfl,by omega,by omega⟩,?_⟩;conv=>whnf
       refine ⟨_,⟨hpl4.cell hjn,?_⟩,?_⟩
       · intro he
         cases hA : A1 j with
         | none => rw [hA] at he; simp at he
         | some a' => rw [hA] at he; simp [add_block] at he; exact hpl4.ne hjn hA he.symm
       conv=>whnf
       have hb2A : ¬ some b2 = (A1 j).map (·.block) := by
        intro he
        cases hA : A1 j with
        | none => rw [hA] at he; simp at he
        | some a' => rw [hA] at he; simp at he; have := ((hpl.own j hjn).block hA).2; omega
       refine ⟨evC e,⟨rfl,hat4.all,hb2A⟩,?_⟩;conv=>whnf
       intro b5 w5 hn5
       refine ⟨Mod.of_ext hn5.ext,?_⟩
       conv=>whnf
       have hx5 : Ext w4 w5 := (Ext.refl w4).drew.trans hn5.ext
       have hl2 := hlen j
       refine Qbl (l := Qbn (l.take i) n j) (news := [e]) (bytes := 96) (ety := ty66) ty66_ok Xam by66 rfl rfl (by decide) Qb1 Qe1 ((hpl4.ext hx5).own j hjn) (Qcf Qb1 hn5) (by simp; omega) (by simp; omega) ((hxw3.trans hx4).trans hx5).size ?_
       intro A6 c6 w6 hown6 hgr hA6
       refine ⟨⟨hgr.os,hgr.tape,hgr.output,hgr.size,fun k hk hn => hgr.block k hk hn⟩,?_⟩
       conv=>whnf
       refine ⟨⟨pb,0,none⟩,⟨rfl,by omega,by omega⟩,?_⟩;conv=>whnf
       have hat6 : At w6 pb 24 ((List.range n).map fun k => .slice (A1 k) (Qbn (l.take i) n k).length (c1 k)) := by
        refine (hgr.block pb (hpl4.ext hx5).at_.lt fun he => ?_).trans (hpl4.ext hx5).at_
        cases hA : A1 j with
        | none => rw [hA] at he; simp at he
        | some a' => rw [hA] at he; simp at he; exact hpl4.ne hjn hA he.symm
       have eadd : (⟨pb,0,none⟩ : Addr).add ((j:Int).toNat * 1) = ⟨pb,j,none⟩ := by rw [Xa]; simp
       rw [eadd]
       refine Qdg Qa (e := ty24) (v := .slice A6 (Qbn (l.take i) n j ++ [e]).length c6) (off := j) (by rfl) hat6 (by rfl) (by simp [ty24]; omega) (by simp [Qm,Value.oneCell']) fun w7 hat7 hon7 => ?_
       conv=>whnf
       have hpl7 := hpl4.app hjn hx5 hown6 hgr hA6 hat7 hon7
       have hxw7 : Ext w w7 := by
        refine hon7.ext (Qag ((hxw3.trans hx4).trans hx5) hgr fun g hg => ?_) hpl.le
        cases hA : A1 j with
        | none => rw [hA] at hg; simp at hg
        | some a' => rw [hA] at hg; simp at hg; have := ((hpl.own j hjn).block hA).1; omega
       refine ⟨_,wrap_succ (by omega),?_⟩;conv=>whnf
       refine ⟨(i + 1,upd A1 j A6,upd c1 j c6),by simp; omega,⟨by simp; omega,hxw7,?_⟩,⟨rfl,rfl,rfl,rfl,rfl,trivial⟩⟩
       have ef : (fun k:Nat => Qbn (l.take (i + 1)) n k) = upd (fun k:Nat => Qbn (l.take i) n k) j (Qbn (l.take i) n j ++ [e]) := by
        funext k
        rw [hsn k]
        unfold upd Qj1
        rw [hth,hj]
        by_cases ek : k = j
        · subst ek; simp
        · rw [if_neg ek,if_neg (by simp; omega)]; simp
       simp only [ef]
       exact hpl7
     · (conv=>whnf)
       refine Qg Qa (fun (x:Nat × (Nat → Option Addr) × (Nat → Nat)) w' => x.1 ≤ n ∧ (At w' b2 66 (evC e) ∧ b2 < w'.heap.size) ∧ Ext w w' ∧ (∀ k,k < n → ∀ a,x.2.1 k = some a → a.block ≠ b2) ∧ PL w.heap.size w' pb n x.2.1 x.2.2 (fun k => if k < x.1 then Qbn (l.take (i + 1)) n k else Qbn (l.take i) n k))
        (fun x => [(0,.int .i64 n),(18,.slice (some a) l.length c),(19,.int .i64 l.length),(20,.int .i64 i),(5,.slice (some ⟨pb,0,none⟩) n n),(7,.pointer (some ⟨b2,0,none⟩)),(45,.int .i64 n),(46,.int .i64 x.1)]) (fun x => n - x.1) (0,A1,c1) ⟨by simp,⟨hat,hat.lt⟩,hxw3,fun k hk a' ha' => by have := ((hpl.own k hk).block ha').2; omega,by simpa using hpl3⟩ ⟨rfl,rfl,rfl,rfl,rfl,rfl,rfl,rfl,trivial⟩ ?_
       rintro ⟨j,A2,c2⟩ w4 ⟨hj,⟨hat4,hb2s⟩,hxw4,hb2k,hpl4⟩
       simp only at hj hpl4 hb2k
       conv=>whnf
       constructor
       · intro hjn
         have hjn : j < n := by simpa using hjn
         have hcell := hpl4.cell hjn
         have hownj := hpl4.own j hjn
         simp only [Nat.lt_irrefl,if_false] at hcell hownj
         have hl2 := hlen j
         conv=>whnf
         refine Dr (.mods fun g => some g = (A2 j).map (·.block)) [0,1,2,3,4,5,6,7,8,9] [10] ?_;conv=>whnf
         refine ⟨⟨pb,0,none⟩,⟨rfl,by omega,by omega⟩,?_⟩;conv=>whnf
         refine ⟨_,⟨hcell,?_⟩,?_⟩
         · intro he
           cases hA : A2 j with
           | none => rw [hA] at he; simp at he
           | some a' => rw [hA] at he; simp [add_block] at he; exact hpl4.ne hjn hA he.symm
         conv=>whnf
         have hb2A : ¬ some b2 = (A2 j).map (·.block) := by
          intro he
          cases hA : A2 j with
          | none => rw [hA] at he; simp at he
          | some a' =>
            rw [hA] at he
            simp at he
            exact hb2k j hjn a' hA he.symm
         refine ⟨evC e,⟨rfl,hat4.all,hb2A⟩,?_⟩;conv=>whnf
         intro b5 w5 hn5
         refine ⟨Mod.of_ext hn5.ext,?_⟩
         conv=>whnf
         have hx5 : Ext w4 w5 := (Ext.refl w4).drew.trans hn5.ext
         refine Qbl (l := Qbn (l.take i) n j) (news := [e]) (bytes := 96) (ety := ty66) ty66_ok Xam by66 rfl rfl (by decide) Qb1 Qe1 (hownj.ext hx5) (Qcf Qb1 hn5) (by simp; omega) (by simp; omega) (hxw4.trans hx5).size ?_
         intro A6 c6 w6 hown6 hgr hA6
         refine ⟨⟨hgr.os,hgr.tape,hgr.output,hgr.size,fun k hk hn => hgr.block k hk hn⟩,?_⟩
         conv=>whnf
         refine ⟨⟨pb,0,none⟩,⟨rfl,by omega,by omega⟩,?_⟩;conv=>whnf
         have hat6 := (hgr.block pb (hpl4.ext hx5).at_.lt fun he => (by
          cases hA : A2 j with
          | none => rw [hA] at he; simp at he
          | some a' => rw [hA] at he; simp at he; exact hpl4.ne hjn hA he.symm)).trans (hpl4.ext hx5).at_
         have eadd : (⟨pb,0,none⟩ : Addr).add ((j:Int).toNat * 1) = ⟨pb,j,none⟩ := by rw [Xa]; simp
         rw [eadd]
         refine Qdg Qa (e := ty24) (v := .slice A6 (Qbn (l.take i) n j ++ [e]).length c6) (off := j) (by rfl) hat6 (by rfl) (by simp [ty24]; omega) (by simp [Qm,Value.oneCell']) fun w7 hat7 hon7 => ?_
         conv=>whnf
         have hpl7 := hpl4.app (e := e) hjn hx5 (A6 := A6) (c6 := c6) (by rw [if_neg (Nat.lt_irrefl j)]; exact hown6) hgr hA6 (by rw [if_neg (Nat.lt_irrefl j)]; exact hat7) hon7
         rw [if_neg (Nat.lt_irrefl j)] at hpl7
         have hxw7 : Ext w w7 := by
          refine hon7.ext (Qag (hxw4.trans hx5) hgr fun g hg => ?_) hpl.le
          cases hA : A2 j with
          | none => rw [hA] at hg; simp at hg
          | some a' => rw [hA] at hg; simp at hg; have := (hownj.block hA).1; omega
         have hw35 : b2 < w5.heap.size := (hat4.ext hx5).lt
         have hb2pb : b2 ≠ pb := by have := hpl.at_.lt; omega
         have hat7b : At w7 b2 66 (evC e) := hon7.at_ ((hgr.block b2 hw35 hb2A).trans (hat4.ext hx5)) hb2pb
         refine ⟨_,wrap_succ (by omega),?_⟩;conv=>whnf
         refine ⟨(j + 1,upd A2 j A6,upd c2 j c6),by simp; omega,⟨by simp; omega,?_,hxw7,?_,?_⟩,⟨rfl,rfl,rfl,rfl,rfl,rfl,rfl,rfl,trivial⟩⟩
         · exact ⟨hat7b,hat7b.lt⟩
         · intro k hk a' ha'
           unfold upd at ha'
           by_cases ek : k = j
           · simp only [if_pos ek] at ha'
             rcases hA6 with e1 | e1 | e1
             · exact hb2k j hjn a' (by rw [← e1,ha'])
             · rw [ha'] at e1
               cases hA : A2 j with
               | none => rw [hA] at e1; simp at e1
               | some d => rw [hA] at e1; simp at e1; rw [e1]; exact hb2k j hjn d hA
             · rw [ha'] at e1; simp at e1; omega
           · simp only [if_neg ek] at ha'
             exact hb2k k hk a' ha'
         · have ef : (fun k:Nat => if k < j + 1 then Qbn (l.take (i + 1)) n k else Qbn (l.take i) n k) = upd (fun k:Nat => if k < j then Qbn (l.take (i + 1)) n k else Qbn (l.take i) n k) j (Qbn (l.take i) n j ++ [e]) := by
            funext k
            unfold upd
            by_cases ek : k = j
            · subst ek
              rw [if_pos (by omega),if_pos rfl,hsn k]
              unfold Qj1
              simp [hth]
            · rw [if_neg ek]
              by_cases e2 : k < j
              · rw [if_pos (by omega)]; exact (if_pos e2).symm
              · rw [if_neg (by omega)]; exact (if_neg e2).symm
           simp only [ef]
           exact hpl7
       · intro hjn
         have hjn : n ≤ j := by simpa using hjn
         conv=>whnf
         refine ⟨_,wrap_succ (by omega),?_⟩;conv=>whnf
         refine ⟨(i + 1,A2,c2),by simp; omega,⟨by simp; omega,hxw4,?_⟩,⟨rfl,rfl,rfl,rfl,rfl,trivial⟩⟩
         refine ⟨Eq.mp (congrArg (At w4 pb _) ?_) hpl4.at_,hpl4.le,fun k hk => ?_,hpl4.dis⟩
         · apply List.map_congr_left
           intro k hk
           rw [if_pos (by simp at hk; omega)]
         · have := hpl4.own k hk
           rw [if_pos (by omega)] at this
           exact this
   · intro hge
     have hge : l.length ≤ i := by simpa using hge
     rw [List.take_of_length_le hge] at hpl
     conv=>whnf
     exact ⟨pb,A1,c1,rfl,hpl,hx⟩
def e0 : Ev := ⟨⟨#[115]⟩,1,0,14,⟨#[112]⟩,⟨#[]⟩,0,⟨#[]⟩⟩
theorem Qmt (p:ByteArray) : Qbf p 1 = 0 := by
 have h := Qfq (Qpm p) 1 (Qkt p)
 have := h.2 (by omega)
 unfold Qbf
 omega
theorem Q59 (l:List Ev) : Qbn l 1 0 = l := by
 unfold Qbn
 rw [List.filter_eq_self]
 intro e _
 simp [Qj1,Qmt]
theorem Qze (w:World) : Cal Tryz.prog 5 [] w fun r w' => r = .bool true ∧ Ext w w' := by
 refine Fi Tryz.func5 rfl _ rfl rfl ?_;conv=>whnf
 intro b w1 hn1
 conv=>whnf
 refine Qdg Qa (e := ty66) (v := evV e0) (off := 0) (by rfl) hn1.At (by rfl) (by decide) (Qe1 e0) fun w2 hat hon => ?_
 have hat : At w2 b 66 (evC e0) := hat
 have hx2 : Ext w w2 := hon.ext hn1.ext (by rw [hn1.block]; exact Nat.le_refl _)
 conv=>whnf
 refine ⟨evC e0,⟨rfl,hat.all⟩,?_⟩;conv=>whnf
 refine ⟨evC e0,⟨rfl,hat.all⟩,?_⟩;conv=>whnf
 intro b3 w3 hn3
 conv=>whnf
 refine (Qs1 [e0,e0] _ _ 1 w3 (by omega) (by omega) (Qcf Qb1 (l := [e0,e0]) hn3) (by simp) (by simp [e0]; decide)).mono ?_
 rintro r w4 ⟨pb,A',c',rfl,hpl,hx4⟩
 have hat4 := (hat.ext hn3.ext).ext hx4
 conv=>whnf
 refine Dr .ext [0,1,2,3,4,5,6,7,8,9,10,11,12,13,14,15,16,17,18,19,20,21,22,23] [] ?_;conv=>whnf
 refine (Q2v ⟨#[112]⟩ 1 w4.drew (by decide) (by omega)).mono ?_
 rintro r w5 ⟨rfl,hx5⟩
 refine ⟨hx5,?_⟩
 rw [Qmt]
 have hx45 : Ext w4 w5 := (Ext.refl w4).drew.trans hx5
 have hcell := (hpl.ext hx45).cell (k := 0) (by omega)
 have hown := (hpl.ext hx45).own 0 (by omega)
 have hp1 : Qbn [e0,e0] ((1:Nat) : Int) ((0:Nat) : Int) = [e0,e0] := Q59 _
 rw [hp1] at hcell hown
 obtain ⟨a,hA,hc⟩ := hown.sl Qb1 1 e0 rfl
 conv=>whnf
 refine ⟨⟨pb,0,none⟩,fun _ => ⟨rfl,by omega,by omega⟩,?_⟩;conv=>whnf
 refine ⟨_,fun _ => hcell,?_⟩;conv=>whnf
 refine ⟨⟨pb,0,none⟩,fun _ => ⟨rfl,by omega,by omega⟩,?_⟩;conv=>whnf
 refine ⟨_,fun _ => hcell,?_⟩;conv=>whnf
 refine ⟨a,fun _ => ⟨hA,by omega,by simp⟩,?_⟩;conv=>whnf
 refine ⟨evC e0,fun _ => ⟨rfl,hc⟩,?_⟩;conv=>whnf
 refine ⟨evC e0,fun _ => ⟨rfl,(hat4.ext hx45).all⟩,?_⟩;conv=>whnf
 refine ⟨_,fun _ => Q91 e0 e0 _ _,?_⟩;conv=>whnf
 exact ⟨by simp,((hx2.trans hn3.ext).trans hx4).trans hx45⟩
end Go.Proofs.YteabekcdcphjpaaGreatDoor
