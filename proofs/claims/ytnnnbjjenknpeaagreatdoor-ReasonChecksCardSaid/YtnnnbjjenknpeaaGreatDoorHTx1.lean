import Derived.Test.YtnnnbjjenknpeaaGreatDoorGI
/- A reason's text,in plain words. -/
set_option linter.unusedVariables false
set_option linter.unusedSimpArgs false
namespace Go.Proofs.YtnnnbjjenknpeaaGreatDoor
open Go.Se Go.RowKit
def rsC (item:ByteArray) (A1:Option Addr) (n1 c1:Nat) (total:Int) (A2:Option Addr) (n2 c2:Nat) (fans:Int) : List Value := [.string item,.slice A1 n1 c1,.int .i64 total,.slice A2 n2 c2,.int .i64 fans]
def Qdw (n:Int) : ByteArray := bytesOf (Lib.itoa n)
theorem Qdr {n:Int} (h0:-9223372036854775808 ≤ n) (h1:n ≤ 9223372036854775807) : (Qdw n).size ≤ 21 := by
 have := Lib.itoa_length_le n h0 h1
 unfold Qdw
 rw [Qaz]
 exact this
def nameB (k:Int) : ByteArray :=
 if k = 0 then ⟨#[112,111,112,117,108,97,114]⟩ else if k = 1 then ⟨#[116,97,115,116,101]⟩ else if k = 2 then ⟨#[107,105,110]⟩
 else if k = 3 then ⟨#[114,105,115,105,110,103]⟩ else if k = 4 then ⟨#[102,111,108,108,111,119]⟩ else if k = 5 then ⟨#[102,114,101,115,104]⟩ else ⟨#[112,97,114,116]⟩
theorem Qov (k:Int) : (nameB k).size ≤ 7 := by
 unfold nameB
 repeat' split
 all_goals decide
def scB : ByteArray := ⟨#[59,32]⟩
def Qmo : ByteArray := ⟨#[59,32,111,119,110,32]⟩
def Qxi : ByteArray := ⟨#[59,32,102,97,110,115,32]⟩
def Qjl (p:Pt) : ByteArray := scB ++ nameB p.1 ++ spB ++ Qdw p.2.1 ++ spB ++ Qdw p.2.2
def Qhs (e:Ev) : ByteArray := Qmo ++ if Xp e = true then Qfb e else ⟨#[]⟩
def headB (item:ByteArray) (tot:Int) : ByteArray := item ++ spB ++ Qdw tot
def Qb2 (Q:List Pt) (s:ByteArray) : ByteArray := Q.foldl (fun s p => s ++ Qjl p) s
def Qpw (O:List Ev) (s:ByteArray) : ByteArray := O.foldl (fun s e => s ++ Qhs e) s
def Q8z (f:Int) (s:ByteArray) : ByteArray := if f = 0 then s else s ++ (Qxi ++ Qdw f)
def Qpa (item:ByteArray) (tot:Int) (Q:List Pt) (O:List Ev) (f:Int) : ByteArray := Q8z f (Qpw O (Qb2 Q (headB item tot)))
theorem Qhc (Q:List Pt) (p:Pt) (s:ByteArray) : Qb2 (Q ++ [p]) s = Qb2 Q s ++ Qjl p := by unfold Qb2; rw [List.foldl_append]; rfl
theorem Qlm (O:List Ev) (e:Ev) (s:ByteArray) : Qpw (O ++ [e]) s = Qpw O s ++ Qhs e := by unfold Qpw; rw [List.foldl_append]; rfl
def Q7f (p:Pt) : Prop := (-9223372036854775808 ≤ p.2.1 ∧ p.2.1 ≤ 9223372036854775807) ∧ (-9223372036854775808 ≤ p.2.2 ∧ p.2.2 ≤ 9223372036854775807)
theorem Q1d {p:Pt} (h:Q7f p) : (Qjl p).size ≤ 60 := by
 have h1 := Qdr h.1.1 h.1.2
 have h2 := Qdr h.2.1 h.2.2
 have h3 := Qov p.1
 have h4 : scB.size = 2 := rfl
 have h5 : spB.size = 1 := rfl
 unfold Qjl
 simp only [ByteArray.size_append]
 omega
theorem Qnf {s:ByteArray} : ∀ Q : List Pt,(∀ p ∈ Q,Q7f p) → (Qb2 Q s).size ≤ s.size + 60 * Q.length := by
 refine Qu (fun _ => by simp [Qb2]) fun Q p ih h => ?_
 have := ih fun x hx => h x (by simp [hx])
 have := Q1d (h p (by simp))
 rw [Qhc,ByteArray.size_append,List.length_append]
 simp only [List.length_cons,List.length_nil]
 omega
theorem Qqj {e:Ev} (h:e.text.size < 1000000) : (Qhs e).size ≤ 10000006 := by
 have h1 : Qmo.size = 6 := rfl
 unfold Qhs
 rw [ByteArray.size_append]
 split
 · next hm =>
   have := Qk7 (Qlf hm h)
   omega
 · show _ + 0 ≤ _
   omega
theorem Qwa {s:ByteArray} : ∀ O : List Ev,(∀ e ∈ O,e.text.size < 1000000) → (Qpw O s).size ≤ s.size + 10000006 * O.length := by
 refine Qu (fun _ => by simp [Qpw]) fun O e ih h => ?_
 have := ih fun x hx => h x (by simp [hx])
 have := Qqj (h e (by simp))
 rw [Qlm,ByteArray.size_append,List.length_append]
 simp only [List.length_cons,List.length_nil]
 omega
def Qft : List ByteArray := [⟨#[112,111,112,117,108,97,114]⟩,⟨#[116,97,115,116,101]⟩,⟨#[107,105,110]⟩,⟨#[114,105,115,105,110,103]⟩,⟨#[102,111,108,108,111,119]⟩,⟨#[102,114,101,115,104]⟩]
def Q2y (w:World) : Prop := Xn w ⟨0,0,none⟩ (Qft.map Value.string)
theorem Q2y.keep {w w':World} (h:Q2y w) (hk:∀ k,k < 10 → w'.heap[k]? = w.heap[k]?) : Q2y w' := fun j v hj => by
 rw [World.cell?_of_block (w := w) (hk _ (by rw [add_block]; decide))]; exact h j v hj
theorem Q2y.ext {w w':World} (h:Q2y w) (hg:Gl w) (hx:Ext w w') : Q2y w' := h.keep fun k hk => hx.block k (Nat.lt_of_lt_of_le hk hg.size)
theorem Q0y {k:Int} (h:0 ≤ k ∧ k < 6) : (Qft.map Value.string)[k.toNat]? = some (.string (nameB k)) := by
 obtain ⟨n,rfl⟩ : ∃ n : Nat,k = n := ⟨k.toNat,by omega⟩
 have hn : n < 6 := by omega
 rw [Int.toNat_natCast]
 rcases n with _ | _ | _ | _ | _ | _ | n
 all_goals first | rfl | omega
theorem Qv3 {k:Int} (h:¬ (0 ≤ k ∧ k < 6)) : nameB k = ⟨#[112,97,114,116]⟩ := by
 unfold nameB
 rw [if_neg (by omega),if_neg (by omega),if_neg (by omega),if_neg (by omega),if_neg (by omega),if_neg (by omega)]
end Go.Proofs.YtnnnbjjenknpeaaGreatDoor
