import Derived.Test.YtopncieoolkhjaaGreatDoorHSl1
/- The sum of a score,in general; the law ScoreWeighs. -/
set_option linter.unusedVariables false
set_option linter.unusedSimpArgs false
namespace Go.Proofs.YtopncieoolkhjaaGreatDoor
open Go.Se Go.RowKit
def wsC (a:Nat → Int) : List Value := [.int .i64 (a 0),.int .i64 (a 1),.int .i64 (a 2),.int .i64 (a 3),.int .i64 (a 4),.int .i64 (a 5)]
def Qzr (c:Cfg) (z:List Ev) (person item:ByteArray) (now:Int) (k:Nat) : Int := Q4x c z person item now (k:Nat)
theorem Q0b {w:World} {T0:Nat → Prop} {p:Nat} {c:Cfg} {z:List Ev} (h:WT w T0 p c z) (hok:Q3z c z) (hg:Gl w) (hT:∀ b,T0 b → 10 ≤ b) (a:Nat → Int) (person item:ByteArray) (now:Int) :
 Cal Tryz.prog 54 [.pointer (some ⟨p,0,none⟩),.agg (wsC a).toArray,.string person,.string item,.int .i64 now] w fun r w' => ∃ A cap T,r = .tuple #[.slice A 6 cap,.int .i64 (Qli (Qot (Qzr c z person item now) a 6))] ∧ Own ptC 3 226 w.heap.size w' A cap (Qot (Qzr c z person item now) a 6) ∧ WT w' T p c z ∧ (∀ b,T b → T0 b ∨ w.heap.size ≤ b) ∧ (∀ a,A = some a → ¬ T a.block) ∧ Mod T0 w w' := by
 have hsz := hg.size
 refine (Q2n (Qzr c z person item now) a (fun _ T w1 => WT w1 T p c z ∧ Gl w1 ∧ ∀ b,T b → 10 ≤ b) T0 p person item now w ⟨h,hg,hT⟩ (fun k T w1 hJ => hJ.1.lt) (fun k T w1 w2 hJ hM => ⟨hJ.1.mod hM fun b hb => hb.1,hJ.2.1.mod hM fun b hb => Nat.le_trans hsz hb.2,hJ.2.2⟩) ?_).mono ?_
 · intro k hk T w1 hJ
   have hs1 := hJ.2.1.size
   refine (Qhu hJ.1 hok hJ.2.1 person item now k).mono ?_
   rintro r w2 ⟨hr,hM,T',hW,hT'⟩
   exact ⟨hr,hM,T',⟨hW,hJ.2.1.mod hM hJ.2.2,fun b hb => (hT' b hb).elim (hJ.2.2 b) fun h => Nat.le_trans hs1 h⟩,hT'⟩
 · rintro r w' ⟨A,cap,T,hr,hown,hJ,hT1,hA,hM⟩
   exact ⟨A,cap,T,hr,hown,hJ.1,hT1,hA,hM⟩
end Go.Proofs.YtopncieoolkhjaaGreatDoor
