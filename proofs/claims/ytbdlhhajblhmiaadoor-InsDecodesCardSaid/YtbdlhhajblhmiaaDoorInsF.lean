/- known of package ins, walked. -/
import Derived.Test.YtbdlhhajblhmiaaDoorInsE
set_option linter.unusedVariables false
set_option linter.unusedSimpArgs false
namespace Go.Proofs.YtbdlhhajblhmiaaDoor.Ins
open Go Go.RowKit Go.Proofs Go.Proofs.YtbdlhhajblhmiaaDoorW.PrintWords Go.Proofs.YtbdlhhajblhmiaaDoor.Bv Go.Proofs.YtbdlhhajblhmiaaDoor.Bw Go.Proofs.YtbdlhhajblhmiaaDoor.BL Go.Proofs.YtbdlhhajblhmiaaDoor.QEncode Go.Maps

set_option maxHeartbeats 4000000 in
set_option maxRecDepth 100000 in
theorem known_c (w : World) (L : Laid w) :
    Calls Tryd.prog 41 #[] w fun e w' => e = .returned (.map (some w.heap.size)) ∧ w'.ownsMap Tryd.prog 40 (plainElem Tryd.prog 3) w.heap.size 43 (Dk 43) ∧ Below w.heap.size w w' := by
  have L1 : Laid (w.alloc (.map #[] 0)) := L.below ((Below.refl w.heap.size w).alloc (Nat.le_refl _) _)
  have hm0 : (w.alloc (.map #[] 0)).ownsMap Tryd.prog 40 (plainElem Tryd.prog 3) w.heap.size 0 (Dk 0) := World.ownsMap_made w Tryd.prog 40 (plainElem Tryd.prog 3)
  have hb0 : Below w.heap.size w (w.alloc (.map #[] 0)) := (Below.refl w.heap.size w).alloc (Nat.le_refl _) _
  have hmm := @run_makeMap Tryd.prog
  go_enter Tryd.func41, Tryd.ntmps41
  go_wp2_with (refine wpList_load_rows rfl _ rfl rfl L1 ?_)
  go_loopw [6] (fun v6 w' => ∃ k : Nat, k ≤ 43 ∧ v6 = .int .i64 (k : Int) ∧ w'.ownsMap Tryd.prog 40 (plainElem Tryd.prog 3) w.heap.size k (Dk k) ∧ Below w.heap.size w w') (fun v6 w' => match v6 with | .int _ n => (43 - n).toNat | _ => 0)
  · exact ⟨0, by omega, rfl, hm0, hb0⟩
  obtain ⟨k, hk, rfl, hown, hbel⟩ := hrel
  by_cases hlt : k < 43
  · have hdec : decide ((k : Int) < 43) = true := by simp; omega
    have hix := idx_rows k (by omega)
    have hwf := row_wf k
    obtain ⟨w1, hrun, hown1, hgrow1⟩ := (hown.alloc (.cells #[.string (fm k).s, .int .u64 (lo k), .int .u64 (kd k), .int .u64 (tp k)] 42)).update (key := .agg #[.int .u64 (lo k), .int .u64 (kd k), .int .u64 (tp k)]) (val := .int .i64 (k : Int)) law40 Tryd.underlying67 (by unfold maxLen; omega) (key_is _ _ _ hwf.1 hwf.2.1 hwf.2.2) (plainElem_int Tryd.underlying3 (WalkArith.wf_i64 (by omega)))
    go_wp2
    go_roundw
    case rel =>
      exact ⟨k + 1, by omega, by simp, hown1, (hbel.alloc hbel.size _).grown hgrow1 (by have := hbel.size; simp; omega) (fun j hj => by injection hj with hj; omega)⟩
    case measure =>
      show (43 - ((k : Int) + 1)).toNat < (43 - (k : Int)).toNat
      omega
  · have hdec : decide ((k : Int) < 43) = false := by simp; omega
    go_wp2
    go_ret
    obtain rfl : k = 43 := by omega
    exact ⟨rfl, hown, hbel⟩
end Go.Proofs.YtbdlhhajblhmiaaDoor.Ins
