import Derived.Test.YtopncieoolkhjaaGreatDoorGF
import Derived.Test.YtopncieoolkhjaaGreatDoorGC
/- world.forget's closure; slices.IndexFunc,ContainsFunc,DeleteFunc at it. -/
set_option linter.unusedVariables false
set_option linter.unusedSimpArgs false
namespace Go.Proofs.YtopncieoolkhjaaGreatDoor
open Go.Se Go.RowKit
def Qae (p:ByteArray) (e:Ev) : Bool := decide (e.person = p) && !decide (e.kind = 14)
def thV (bp:Nat) : Value := .func (.func 181) #[] #[.pointer (some ⟨bp,0,none⟩)]
theorem Qk3 (bp:Nat) (p:ByteArray) (e:Ev) (w:World) (hp:At w bp 9 [.string p]) :
 Cal Tryz.prog 181 [evV e,.pointer (some ⟨bp,0,none⟩)] w fun r w' => r = .bool (Qae p e) ∧ Ext w w' := by
 refine Fi Tryz.func181 rfl _ rfl rfl ?_;conv=>whnf
 intro b1 w1 hn1; (conv=>whnf);repeat(refine Sg ?_;(conv=>whnf))
 have h1 : At w1 b1 49 (evC e) := hn1.At
 refine ⟨.string e.person,h1.one rfl,?_⟩; (conv=>whnf);repeat(refine Sg ?_;(conv=>whnf))
 refine ⟨.string p,(hp.ext hn1.ext).one0,?_⟩; (conv=>whnf);repeat(refine Sg ?_;(conv=>whnf))
 refine ⟨.int .i64 e.kind,fun _ => h1.one rfl,?_⟩; (conv=>whnf);repeat(refine Sg ?_;(conv=>whnf))
 exact ⟨rfl,hn1.ext⟩
theorem Qlx (bp:Nat) (p:ByteArray) (l:List Ev) (A:Option Addr) (c:Nat) (w:World) (hp:At w bp 9 [.string p]) (hs:SlE w A l) (hl:l.length < 1000000) :
 Cal Tryz.prog 227 [.slice A l.length c,thV bp] w fun r w' => r = .int .i64 (match l.findIdx? (Qae p) with | some i => (i:Int) | none => -1) ∧ Ext w w' := by
 refine Fi Tryz.func227 rfl _ rfl rfl ?_;conv=>whnf
 refine Qe Qa (fun (k:Nat) w' => k ≤ l.length ∧ Ext w w' ∧ ∀ x ∈ l.take k,Qae p x = false)
  (fun k => [(0,.slice A l.length c),(1,thV bp),(7,.int .i64 l.length),(8,.int .i64 (k:Nat))]) (fun k => l.length - k) 0 ⟨Nat.zero_le _,Ext.refl _,by simp⟩ ⟨rfl,rfl,rfl,rfl,trivial⟩ ?_
 rintro k w1 ⟨hk,hx,hall⟩
 conv=>whnf
 constructor
 · intro hlt
   have hlt : k < l.length := by simpa using hlt
   obtain ⟨a,rfl,hc⟩ := (hs.ext hx).get hlt
   have htk := Xu l k hlt
   have hfi : Qae p l[k] = true → l.findIdx? (Qae p) = some k := fun h => by
    rw [List.findIdx?_eq_some_iff_getElem]
    refine ⟨hlt,h,fun j hj => ?_⟩
    have hjl : j < l.length := by omega
    have := hall l[j] (by rw [List.mem_take_iff_getElem]; exact ⟨j,by omega,rfl⟩)
    simp [this]
   generalize l[k] = x at hc htk hfi
   (conv=>whnf);repeat(refine Sg ?_;(conv=>whnf))
   refine ⟨a,⟨rfl,by omega,by omega⟩,?_⟩; (conv=>whnf);repeat(refine Sg ?_;(conv=>whnf))
   refine ⟨evC x,⟨rfl,hc⟩,?_⟩; (conv=>whnf);repeat(refine Sg ?_;(conv=>whnf))
   refine (Qk3 bp p x w1 (hp.ext hx)).mono ?_
   rintro _ w2 ⟨rfl,hx2⟩; (conv=>whnf);repeat(refine Sg ?_;(conv=>whnf))
   constructor
   · intro h
     rw [hfi h]
     (conv=>whnf);repeat(refine Sg ?_;(conv=>whnf))
     exact ⟨rfl,hx.trans hx2⟩
   · intro h
     have h : Qae p x = false := h
     (conv=>whnf);repeat(refine Sg ?_;(conv=>whnf))
     refine ⟨_,wrap_succ (by omega),?_⟩; (conv=>whnf);repeat(refine Sg ?_;(conv=>whnf))
     refine ⟨k + 1,by omega,⟨by omega,hx.trans hx2,fun y hy => ?_⟩,⟨rfl,rfl,rfl,rfl,trivial⟩⟩
     rw [htk] at hy
     rcases List.mem_append.1 hy with hy | hy
     · exact hall y hy
     · rw [List.mem_singleton] at hy; rw [hy]; exact h
 · intro hge
   have hge : l.length ≤ k := by simpa using hge
   rw [List.take_of_length_le hge] at hall
   have : l.findIdx? (Qae p) = none := by
    rw [List.findIdx?_eq_none_iff]
    exact hall
   rw [this]
   (conv=>whnf);repeat(refine Sg ?_;(conv=>whnf))
   exact ⟨rfl,hx⟩
theorem Qrd {α:Type} {q:α → Bool} : ∀ {l:List α},(match l.findIdx? q with | some i => (i:Int) | none => -1) ≥ 0 ↔ l.any q = true := by
 intro l
 cases h : l.findIdx? q with
 | none =>
   rw [List.findIdx?_eq_none_iff] at h
   have : l.any q = false := by
    rw [List.any_eq_false]
    intro x hx
    simp [h x hx]
   rw [this]
   simp
 | some i =>
   rw [List.findIdx?_eq_some_iff_getElem] at h
   obtain ⟨hi,hq,_⟩ := h
   have : l.any q = true := List.any_eq_true.2 ⟨_,List.getElem_mem hi,hq⟩
   rw [this]
   simp
theorem Qvj (bp:Nat) (p:ByteArray) (l:List Ev) (A:Option Addr) (c:Nat) (w:World) (hp:At w bp 9 [.string p]) (hs:SlE w A l) (hl:l.length < 1000000) :
 Cal Tryz.prog 182 [.slice A l.length c,thV bp] w fun r w' => r = .bool (l.any (Qae p)) ∧ Ext w w' := by
 refine Fi Tryz.func182 rfl _ rfl rfl ?_;conv=>whnf
 refine (Qlx bp p l A c w hp hs hl).mono ?_
 rintro _ w2 ⟨rfl,hx⟩
 have h := Qrd (q := Qae p) (l := l)
 generalize (match l.findIdx? (Qae p) with | some i => (i:Int) | none => -1) = z at h
 (conv=>whnf);repeat(refine Sg ?_;(conv=>whnf))
 refine ⟨?_,hx⟩
 congr 1
 rw [Bool.eq_iff_iff,decide_eq_true_iff]
 exact h
section
variable {α:Type} {enc:α → List Value} {sz:Nat} {te:TypeId} {base:Nat} {w w':World} {A:Option Addr} {c:Nat} {l:List α}
theorem Qxw {P:Program} {t ty:TypeId} (ht:P.underlying t = some (.slice te)) {ety:TyE} (hte:Xe P te = some ety) (hz:(Qj ety.zero).length = sz) (hzo:∀ u ∈ Qj ety.zero,u.oneCell' = true) (hsz:∀ x,(enc x).length = sz)
 {i:Nat} (hi:i < l.length) {a:Addr} (hown:Own enc sz te base w (some a) c l) {n cap:Nat} (hn:n = l.length - i) {R:Value → World → Prop}
 (h:∀ w',Own enc sz te base w' (some a) c (l.take i) → Only w w' a.block → R (.tuple #[]) w') : Qid P (Builtin.clear_ #[t] ty #[.slice (some (a.add (i * sz))) n cap]) w R := by
 rcases hown.2 with ⟨hv',h0⟩ | ⟨g,cp,cur,hv',hb,hg,h1,h2,h3,h4⟩
 · omega
 · have hA : a = ⟨g,0,none⟩ := by injection hv' with h _ _; injection h
   have hc : c = cp := by injection hv'
   subst hA hc
   rw [Xp]
   obtain ⟨m,rfl⟩ : ∃ m,n = m + 1 := ⟨n - 1,by omega⟩
   have hle : i * sz + (m + 1) * sz = l.length * sz := by rw [← Nat.add_mul]; congr 1; omega
   have hle2 : l.length * sz ≤ c * sz := Nat.mul_le_mul_right sz h1
   have hzs : ety.zero.cells.size = sz := by rw [← hz,← Qal]; simp
   have hZl : (Builtin.zeroCells ety.zero.cells (m + 1)).toList.length = (m + 1) * sz := by simp [Builtin.zeroCells,hzs]
   have hZo : ∀ v ∈ (Builtin.zeroCells ety.zero.cells (m + 1)).toList,v.oneCell' = true := by
    intro v hv
    simp only [Builtin.zeroCells,Array.toList_map,List.mem_map] at hv
    obtain ⟨k,hk,rfl⟩ := hv
    have hk2 : k < (m + 1) * sz := by simpa [hzs] using hk
    have hpos : 0 < sz := by
     rcases Nat.eq_zero_or_pos sz with h | h
     · rw [h] at hk2; simp at hk2
     · exact h
    have hlt : k % ety.zero.cells.size < ety.zero.cells.size := Nat.mod_lt _ (by omega)
    rw [getElem!_pos ety.zero.cells (k % ety.zero.cells.size) hlt]
    apply hzo
    rw [← Qal]
    exact Array.getElem_mem_toList hlt
   have hst := run_storeCells_at P g (i * sz) te (Builtin.zeroCells ety.zero.cells (m + 1)).toList 0 cur w hg (by rw [hZl,h3]; omega) hZo
   obtain ⟨inf,d,hi1,hd,hz1,_⟩ := Xf hte
   have hzv := Qib hte w
   refine ⟨.tuple #[],w.setRow g (cur.toList.take (i * sz + 0) ++ (Builtin.zeroCells ety.zero.cells (m + 1)).toList ++ cur.toList.drop (i * sz + 0 + (Builtin.zeroCells ety.zero.cells (m + 1)).toList.length)).toArray,?_,h _ ?_ (Qkg w g _)⟩
   · simp [Builtin.clear_,run_underlying ht,hzv,hst]
   · generalize (Builtin.zeroCells ety.zero.cells (m + 1)).toList = Z at hZl
     have hhe := setRow_heap w g cur (cur.toList.take (i * sz + 0) ++ Z ++ cur.toList.drop (i * sz + 0 + Z.length)).toArray te (0,0) hg
     have hil : (l.take i).length = i := by rw [List.length_take]; omega
     refine ⟨by rw [Qej hsz],.inr ⟨g,c,_,by rw [hil],hb,hhe,by rw [hil]; omega,h2,?_,?_⟩⟩
     · simp [hZl]
       omega
     · rw [hil,Qjx hsz,← h4,List.take_take]
       simp only [List.toList_toArray,Nat.add_zero]
       rw [List.append_assoc,List.take_append]
       have e1 : (cur.toList.take (i * sz)).length = i * sz := by simp; omega
       rw [e1,Nat.sub_self,List.take_zero,List.append_nil,List.take_take,Nat.min_self,Nat.min_eq_left (by omega)]
end
theorem Qbj {α:Type} (q:α → Bool) (l:List α) (k:Nat) (h:k < l.length) : (l.take (k + 1)).filter q = (l.take k).filter q ++ if q l[k] = true then [l[k]] else [] := by
 rw [Xu l k h,List.filter_append]
 congr 1
 by_cases hq : q l[k] = true
 · simp [hq]
 · simp [hq]
theorem Q34 : Tryz.prog.underlying 23 = some (.slice 49) := by kernel_rfl
set_option maxHeartbeats 2000000 in
theorem Qvk (bp:Nat) (p:ByteArray) (l:List Ev) (a:Addr) (c base:Nat) (w:World) (hp:At w bp 9 [.string p]) (hown:Own evC 8 49 base w (some a) c l) (hbp:a.block ≠ bp) (hl:l.length < 1000000) (hany:l.any (Qae p) = true) :
 Cal Tryz.prog 183 [.slice (some a) l.length c,thV bp] w fun r w' => r = .slice (some a) (l.filter fun e => !Qae p e).length c ∧ Own evC 8 49 base w' (some a) c (l.filter fun e => !Qae p e) ∧ Mod (fun k => k = a.block) w w' := by
 have hle := hown.le
 obtain ⟨i0,hi0,hq0,hb0⟩ : ∃ i,∃ (h:i < l.length),Qae p l[i] = true ∧ ∀ j (hj:j < i),Qae p (l[j]'(by omega)) = false := by
  cases h : l.findIdx? (Qae p) with
  | none =>
    rw [List.findIdx?_eq_none_iff] at h
    obtain ⟨x,hx,hq⟩ := List.any_eq_true.1 hany
    rw [h x hx] at hq
    cases hq
  | some i =>
    rw [List.findIdx?_eq_some_iff_getElem] at h
    obtain ⟨h1,h2,h3⟩ := h
    exact ⟨i,h1,h2,fun j hj => by simpa using h3 j hj⟩
 have hfi : l.findIdx? (Qae p) = some i0 := by
  rw [List.findIdx?_eq_some_iff_getElem]
  exact ⟨hi0,hq0,fun j hj => by simp [hb0 j hj]⟩
 have hf0 : (l.take (i0 + 1)).filter (fun e => !Qae p e) = l.take i0 := by
  rw [Qbj _ l i0 hi0,hq0]
  simp only [Bool.not_true,Bool.false_eq_true,if_false,List.append_nil]
  rw [List.filter_eq_self]
  intro x hx
  rw [List.mem_take_iff_getElem] at hx
  obtain ⟨j,hj,rfl⟩ := hx
  rw [hb0 j (by omega)]
  rfl
 refine Fi Tryz.func183 rfl _ rfl rfl ?_;conv=>whnf
 refine (Qlx bp p l (some a) c w hp (hown.sl Xb) hl).mono ?_
 rintro _ w1 ⟨rfl,hx1⟩
 rw [hfi]
 replace hown := hown.ext hx1
 have hp1 := hp.ext hx1
 (conv=>whnf);repeat(refine Sg ?_;(conv=>whnf))
 constructor
 · intro h
   simp at h
 intro _
 (conv=>whnf);repeat(refine Sg ?_;(conv=>whnf))
 refine ⟨_,wrap_succ (by omega),?_⟩; (conv=>whnf);repeat(refine Sg ?_;(conv=>whnf))
 refine Qe Qa (fun (x:Nat × Nat × List Ev) w' => x.1 ≤ l.length ∧ x.2.1 < x.1 ∧ x.2.2.length = l.length ∧ x.2.2.take x.2.1 = (l.take x.1).filter (fun e => !Qae p e) ∧ x.2.2.drop x.1 = l.drop x.1 ∧ Own evC 8 49 base w' (some a) c x.2.2 ∧ At w' bp 9 [.string p] ∧ Mod (fun k => k = a.block) w w')
  (fun | (j,i,U) => [(0,.slice (some a) l.length c),(1,thV bp),(5,.int .i64 (i:Nat)),(6,.int .i64 (j:Nat))]) (fun x => l.length - x.1) (i0 + 1,i0,l) ⟨by simp only; omega,by simp only; omega,rfl,hf0.symm,rfl,hown,hp1,Mod.of_ext hx1⟩ ⟨rfl,rfl,rfl,rfl,trivial⟩ ?_
 clear hp1 hown hx1 hf0 hfi hb0 hq0
 rintro ⟨j,i,U⟩ w2 ⟨hj,hij,hUl,hUt,hUd,hown,hp2,hM2⟩
 simp only at hj hij hUl hUt hUd hown
 conv=>whnf
 constructor
 · intro hlt
   have hlt : j < l.length := by simpa using hlt
   have hjU : j < U.length := by omega
   obtain ⟨a',ha',hc⟩ := (hown.sl Xb).get hjU
   injection ha' with ha'
   subst ha'
   have hUj : U[j] = l[j] := by
    have h1 : (U.drop j)[0]? = (l.drop j)[0]? := by rw [hUd]
    rw [List.getElem?_drop,List.getElem?_drop,Nat.add_zero,List.getElem?_eq_getElem hjU,List.getElem?_eq_getElem hlt] at h1
    exact Option.some.inj h1
   have hst := Qbj (fun e => !Qae p e) l j hlt
   rw [← hUt] at hst
   have hUd2 : U.drop (j + 1) = l.drop (j + 1) := by rw [← List.drop_drop,← List.drop_drop,hUd]
   rw [hUj] at hc
   generalize l[j] = v at hc hst
   (conv=>whnf);repeat(refine Sg ?_;(conv=>whnf))
   refine ⟨a,⟨rfl,by omega,by omega⟩,?_⟩; (conv=>whnf);repeat(refine Sg ?_;(conv=>whnf))
   refine ⟨evC v,⟨rfl,hc⟩,?_⟩; (conv=>whnf);repeat(refine Sg ?_;(conv=>whnf))
   intro b7 w3 hn3; (conv=>whnf);repeat(refine Sg ?_;(conv=>whnf))
   refine Qh Qa (e := ty49) rfl hn3.At rfl rfl rfl (Qdt v) fun w4 h7 ho4 => ?_
   have h7 : At w4 b7 49 (evC v) := h7
   have hx24 : Ext w2 w4 := ho4.ext hn3.ext (by rw [hn3.block]; exact Nat.le_refl _)
   clear ho4 hn3
   (conv=>whnf);repeat(refine Sg ?_;(conv=>whnf))
   refine ⟨evC v,⟨rfl,h7.all⟩,?_⟩; (conv=>whnf);repeat(refine Sg ?_;(conv=>whnf))
   refine (Qk3 bp p v w4 (hp2.ext hx24)).mono ?_
   rintro _ w5 ⟨rfl,hx5⟩
   have hx25 := hx24.trans hx5
   have h75 := h7.ext hx5
   replace hown := hown.ext hx25
   replace hp2 := hp2.ext hx25
   replace hM2 := hM2.trans (Mod.of_ext hx25)
   clear hx24 hx5 hx25 h7
   (conv=>whnf);repeat(refine Sg ?_;(conv=>whnf))
   constructor
   · intro hq
     have hq : Qae p v = false := by simpa using hq
     rw [hq] at hst
     simp only [Bool.not_false,if_true] at hst
     (conv=>whnf);repeat(refine Sg ?_;(conv=>whnf))
     refine ⟨evC v,⟨rfl,h75.all⟩,?_⟩; (conv=>whnf);repeat(refine Sg ?_;(conv=>whnf))
     refine ⟨a,⟨rfl,by omega,by omega⟩,?_⟩; (conv=>whnf);repeat(refine Sg ?_;(conv=>whnf))
     refine Qhd Qa (e := ty49) rfl rfl Xb Qdt (k := i) (by omega) v rfl hown fun w6 hown6 ho6 => ?_
     (conv=>whnf);repeat(refine Sg ?_;(conv=>whnf))
     refine ⟨_,wrap_succ (by omega),?_⟩; (conv=>whnf);repeat(refine Sg ?_;(conv=>whnf))
     refine ⟨_,wrap_succ (by omega),?_⟩; (conv=>whnf);repeat(refine Sg ?_;(conv=>whnf))
     refine ⟨(j + 1,i + 1,U.set i v),by simp only; omega,⟨by simp only; omega,by simp only; omega,by simp only; rw [List.length_set]; exact hUl,?_,?_,hown6,ho6.at_ hp2 (fun e => hbp e.symm),hM2.trans (Qi ho6 rfl)⟩,⟨rfl,rfl,rfl,rfl,trivial⟩⟩
     · simp only
       rw [hst,List.take_set,List.take_add_one,List.getElem?_eq_getElem (by omega:i < U.length)]
       rw [List.set_append_right _ _ (by rw [List.length_take]; omega)]
       simp [List.length_take,Nat.min_eq_left (by omega:i ≤ U.length)]
     · simp only
       rw [List.drop_set_of_lt (by omega)]
       exact hUd2
   · intro hq
     have hq : Qae p v = true := by simpa using hq
     rw [hq] at hst
     simp only [Bool.not_true,Bool.false_eq_true,if_false,List.append_nil] at hst
     (conv=>whnf);repeat(refine Sg ?_;(conv=>whnf))
     refine ⟨_,wrap_succ (by omega),?_⟩; (conv=>whnf);repeat(refine Sg ?_;(conv=>whnf))
     exact ⟨(j + 1,i,U),by simp only; omega,⟨by simp only; omega,by simp only; omega,hUl,hst.symm,hUd2,hown,hp2,hM2⟩,⟨rfl,rfl,rfl,rfl,trivial⟩⟩
 intro hge
 have hge : l.length ≤ j := by simpa using hge
 rw [List.take_of_length_le hge] at hUt
 have hil : i < U.length := by omega
 have hfl : (l.filter fun e => !Qae p e).length = i := by rw [← hUt,List.length_take]; omega
 rw [hfl]
 have hsl : (if ((c:Nat) : Int).toNat = ((i:Nat) : Int).toNat then some a else (some a).map (·.add (((i:Nat) : Int).toNat * 8))) = some (a.add (i * 8)) := by
  rw [Int.toNat_natCast,Int.toNat_natCast,if_neg (by omega)]
  rfl
 (conv=>whnf);repeat(refine Sg ?_;(conv=>whnf))
 refine ⟨⟨by omega,by omega,by omega,by omega⟩,?_⟩; (conv=>whnf);repeat(refine Sg ?_;(conv=>whnf))
 rw [hsl]
 refine Qxw Q34 ty49_ok rfl (by simp [Qj,ty49,Value.oneCell']) Xb hil hown (by simp; omega) fun w6 hown6 ho6 => ?_
 rw [hUt] at hown6
 (conv=>whnf);repeat(refine Sg ?_;(conv=>whnf))
 refine ⟨⟨by omega,by omega,by omega,by omega⟩,?_⟩; (conv=>whnf);repeat(refine Sg ?_;(conv=>whnf))
 refine ⟨?_,hown6,hM2.trans (Qi ho6 rfl)⟩
 have e0 : a.add 0 = a := by unfold Addr.add; simp
 simp [e0]
end Go.Proofs.YtopncieoolkhjaaGreatDoor
