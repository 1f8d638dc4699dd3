import Derived.Test.YtoancknoinilaaaGreatDoorHSl3
/- The chapter's example,by the score in general. -/
set_option linter.unusedVariables false
set_option linter.unusedSimpArgs false
namespace Go.Proofs.YtoancknoinilaaaGreatDoor
open Go.Se Go.RowKit
theorem Q7p (k:Nat) (hk:k < 6) : Q4y Q6q [sv1] ⟨#[112]⟩ ⟨#[97]⟩ 5 k = Q6x k := by
 have hin : ∀ j : Nat,j < 6 → Q4y Q6q [sv1] ⟨#[112]⟩ ⟨#[97]⟩ 5 j = Qhe Q6q [sv1] ⟨#[112]⟩ ⟨#[97]⟩ 5 j := fun j hj => by
  unfold Q4y Qxc
  rw [if_pos ⟨by omega,by omega,by omega,by omega⟩,Int.toNat_natCast]
 have hw : [sv1].filter wpB = [] := by decide +kernel
 have hn : ∀ e ∈ [sv1],peB e = true → e.person ≠ ⟨#[112]⟩ := by decide +kernel
 rw [hin k hk]
 by_cases h : k = 1 ∨ k = 2 ∨ k = 4
 · rw [Qxj Q6q [sv1] ⟨#[112]⟩ ⟨#[97]⟩ 5 hn k h]
   rcases h with rfl | rfl | rfl <;> rfl
 rcases k with _ | _ | _ | _ | _ | _ | k
 · unfold Qhe
   rw [if_pos rfl,hw]
   rfl
 · omega
 · omega
 · unfold Qhe
   rw [if_neg (by decide),if_neg (by decide),if_neg (by decide),if_pos rfl,hw]
   rfl
 · omega
 · unfold Qhe
   rw [if_neg (by decide),if_neg (by decide),if_neg (by decide),if_neg (by decide),if_neg (by decide),if_pos rfl]
   decide +kernel
 · omega
theorem Q62 : Qjn (Q4y Q6q [sv1] ⟨#[112]⟩ ⟨#[97]⟩ 5) ones 6 = Qjn Q6x ones 6 := by
 unfold Qjn
 refine List.map_congr_left fun k hk => ?_
 rw [Q7p k (List.mem_range.1 hk)]
theorem Qq7 (w:World) (hg0:Gl w) : Cal Tryz.prog 15 [] w fun r w' => r = .bool true ∧ Ext w w' := by
 refine Fi Tryz.func15 rfl _ rfl rfl ?_;conv=>whnf
 intro b1 w1 hn1;conv=>whnf
 have hs1 : SlE w1 (some ⟨b1,0,none⟩) [sv1] := Qbm Xw hn1
 refine (Qra Q6q (by rfl) [sv1] (some ⟨b1,0,none⟩) 1 w1 (hg0.ext hn1.ext) hs1 (by decide) Q4q).mono ?_
 rintro _ w2 ⟨p,rfl,hW,hx2⟩
 rw [Q45] at hW
 obtain ⟨T,hWT,hT⟩ := hW.t
 have hsz := hg0.size
 have hs12 := hn1.ext.size
 conv=>whnf
 refine ⟨fun h => (by simp at h),fun _ => ?_⟩
 have hx := hn1.ext.trans hx2
 conv=>whnf
 have hof := Qqi hWT ⟨by rfl,by decide⟩ (hg0.ext hx) (fun b hb => by have := hT b hb; omega) ones ⟨#[112]⟩ ⟨#[97]⟩ 5
 rw [Q62,Q4f] at hof
 refine hof.mono ?_
 rintro _ w3 ⟨A,cap,T3,rfl,hown,_,_,_,hM3⟩
 have hx3 : Ext w w3 := Qlb hx (fun k hk => by have := hT k hk; omega) hM3
 have hl : (Qjn Q6x ones 6).length = 6 := by rfl
 have htot := Q4f
 have hsl := hown.sl Qnz
 obtain ⟨a,rfl,hc⟩ := hsl 5 _ Q8l
 generalize Qjn Q6x ones 6 = Q at hl hsl htot
 have htt := Qfz Q (some a) cap w3 hsl (by omega)
 rw [htot,hl] at htt
 conv=>whnf
 refine ⟨a,fun _ => ⟨rfl,by omega,by omega⟩,?_⟩;conv=>whnf
 refine ⟨.int .i64 1048576,fun _ => cells_at hc (k := 1) rfl,?_⟩;conv=>whnf
 refine ⟨Unit,fun _ => (.int .i64 1048576),fun _ w' => Ext w3 w',(),fun hg => (htt).mono fun r w' h => ⟨(),h.1,h.2⟩,?_⟩
 intro _ w4 h2
 have hx4 : Ext w3 w4 := by
  rcases h2 with ⟨_,h⟩ | ⟨_,h⟩
  · exact h
  · rw [h]; exact Ext.refl _
 clear h2
 conv=>whnf
 exact ⟨rfl,hx3.trans hx4⟩
end Go.Proofs.YtoancknoinilaaaGreatDoor
