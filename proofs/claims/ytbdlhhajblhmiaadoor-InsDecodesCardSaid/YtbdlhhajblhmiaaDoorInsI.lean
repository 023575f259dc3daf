/- regAt, the literal in Decode of package ins, walked. -/
import Derived.Test.YtbdlhhajblhmiaaDoorInsF
set_option linter.unusedVariables false
set_option linter.unusedSimpArgs false
namespace Go.Proofs.YtbdlhhajblhmiaaDoor.Ins
open Go Go.RowKit Go.Proofs Go.Proofs.YtbdlhhajblhmiaaDoorW.PrintWords Go.Proofs.YtbdlhhajblhmiaaDoor.Bv Go.Proofs.YtbdlhhajblhmiaaDoor.Bw Go.Proofs.YtbdlhhajblhmiaaDoor.BL Go.Proofs.YtbdlhhajblhmiaaDoor.QEncode Go.Maps

set_option maxHeartbeats 4000000 in
set_option maxRecDepth 100000 in
theorem regAt_no (v : BitVec 64) (fn : Nat) (hfn : fn + 5 ≤ 64) (b : Nat) (w : World) (hc : w.cell? ⟨b, 0, none⟩ = some (.int .u64 (U v))) :
    Calls Tryd.prog 31 #[.int .i64 (fn : Int), .bool false, .pointer (some ⟨b, 0, none⟩)] w fun e w' => e = .returned (.int .i64 (0)) ∧ Drawn0 w w' := by
  go_enter Tryd.func31, Tryd.ntmps31
  go_wp2_with (go_at_call 20; refine (field_c v _ _ fn 5 rfl rfl hfn _).mono ?_; rintro e w' ⟨rfl, ⟨nd, rfl⟩⟩)
  refine bodyPost_ret (v := .int .i64 (0)) (by simp [results, Tryd.results31, go_sem]) rfl ⟨rfl, ⟨nd, rfl⟩⟩
set_option maxHeartbeats 4000000 in
set_option maxRecDepth 100000 in
theorem regAt_yes (v : BitVec 64) (fn : Nat) (hfn : fn + 5 ≤ 64) (b : Nat) (w : World) (hc : w.cell? ⟨b, 0, none⟩ = some (.int .u64 (U v))) :
    Calls Tryd.prog 31 #[.int .i64 (fn : Int), .bool true, .pointer (some ⟨b, 0, none⟩)] w fun e w' => e = .returned (.int .i64 (wrap64 (U (fld v fn 5)))) ∧ Drawn0 w w' := by
  go_enter Tryd.func31, Tryd.ntmps31
  go_wp2_with (go_at_call 20; refine (field_c v _ _ fn 5 rfl rfl hfn _).mono ?_; rintro e w' ⟨rfl, ⟨nd, rfl⟩⟩)
  refine bodyPost_ret (v := .int .i64 (wrap64 (U (fld v fn 5)))) (by simp [results, Tryd.results31, go_sem]) rfl ⟨rfl, ⟨nd, rfl⟩⟩
end Go.Proofs.YtbdlhhajblhmiaaDoor.Ins
