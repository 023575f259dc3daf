/- The tied card of the law InsDecodes: its row out of its plain statement and the walk; the listed table as the condition gives it. No condition but what the card prints. -/
import Derived.Test.YtbdlhhajblhmiaaDoorRows
import Derived.Test.YtbdlhhajblhmiaaDoorQInsDecodesx8
import Derived.Test.YtbdlhhajblhmiaaDoorPureInsDecodes
import Derived.WalkKit
import Derived.ProofKit
import Derived.OpenShut
import Derived.ShutString
import Derived.ChangeOld
import Derived.Below
import Derived.SizedLaws
import Derived.LaidMore
import Derived.Stop.Joined
import Derived.SevenTiedAt
import Derived.Test.YtbdlhhajblhmiaaDoorInsO
import Derived.Test.YtbdlhhajblhmiaaDoorTie
import Derived.Test.YtbdlhhajblhmiaaDoorCards
namespace Go.Proofs.YtbdlhhajblhmiaaDoor.insDecodes
open Go.ChangeShapes Go.WideShapes Go.ChangeAt Go.RowKit
open Go.ChangeMaps (open_string shut_string)
set_option linter.unusedVariables false
theorem own : ownKnob Tryd.prog.godebug = none := by kernel_rfl
set_option maxRecDepth 100000 in
theorem lifted (os : Os) (started : os.Started) (H : Type) (enc : TypeId × Value → H) :
    ReturnsInHanded {} Tryd.checked os 4 .any (fun w args => (Rows.insDecodesSpec.pre enc Tryd.prog Tryd.f4 [] false w args ∧ laidMetH Tryd.prog Ins.laid1 w) ∧ sizedMet enc Tryd.prog Tryd.f4 (OpenSpec.ofChange Rows.insDecodesSpec) false w args) (Rows.insDecodesSpec.post enc Tryd.prog Tryd.f4 false true false false) := by
  refine returnsInHanded_of_change_and (C := Tryd.checked) (X := fun w _ => laidMetH Tryd.prog Ins.laid1 w) (fun _ _ _ hh h => h.of_heap hh) own started (by kernel_rfl) Tryd.func4
    (ChangeSpec.witness_shaped (enc := enc) (C := Tryd.checked) (os := os) (X := fun w _ => laidMetH Tryd.prog Ins.laid1 w) false (World.doorLaid Tryd.prog 100 os) #[.int .u32 0] 8 rfl (World.shaped_of_RefB (by kernel_rfl) (by kernel_rfl)) (by kernel_rfl) (by kernel_rfl) (by kernel_rfl) (Ins.door_met os _)) ?_
  intro W base args ds gs before hval0 hW _ hsz0 hL _
  have hval : ∀ (j : Nat) t v, Tryd.f4.params[j]? = some t → args[j]? = some v → Value.okWide Tryd.prog W .any base t v := hval0
  have hW' := hW
  obtain ⟨p, q, hA0, hV, rfl, hfz, hnd⟩ := hW
  have hA : DataW.TrodAll enc Tryd.prog W 0 (fun _ => true) true Tryd.f4.params.toList args.toList ds p := hA0
  rw [Tryd.params4] at hA hval
  obtain ⟨v0, vs0, d0, ds0, p0, q0, hargs, rfl, rfl, h0, r0⟩ := trodAll_cons hA
  obtain ⟨rfl, rfl, rfl⟩ := trodAll_nil r0
  obtain rfl : args = #[v0] := by cases args; simp_all
  obtain ⟨rfl, rfl⟩ := trodVars_none hV
  obtain ⟨a0, rfl, rfl, rfl, w0⟩ := open_int Tryd.underlying25 (hval 0 25 v0 rfl rfl) h0
  clear hA0 hval0 hsz0
  refine (QInsDecodes.caponierlaw02_InsDecodes.walk Pure.InsDecodes a0 W w0 (Ins.of_laid hL)).mono fun e W' ⟨he, bel⟩ => ?_
  subst he
  exact ⟨_, rfl, _, _, _, [], _, [], hW', trodAll_mk1 (shut_bool Tryd.underlying4 _), (trodAll_cons_mk (shut_int Tryd.underlying25 w0) trodAll_mk0), rfl, bel.frame _, fun h => by cases h⟩
theorem over : Rows.insDecodesRow.holds Tryd.pinned (OpenSpec.ofChange Rows.insDecodesSpec) :=
  OpenClaim.holds_of_wide 4 Tryd.f4 rfl rfl rfl rfl rfl rfl rfl ⟨rfl, rfl, rfl, rfl, rfl⟩ rfl rfl rfl rfl rfl (by kernel_rfl) Tryd.func4 (by kernel_rfl)
    (of_decide_eq_true (by kernel_rfl)) (by unfold Func.isWrapper; first | (rw [if_pos (by decide +kernel)]; kernel_rfl) | (rw [if_neg (by decide +kernel)]; exact ⟨rfl, rfl⟩))
    (fun os started H enc _ => lifted os started H enc)
theorem card : Rows.InsDecodesCardSaid :=
  Claim7.holds_tied_plain_at .later [] [.data] true (true, "e682f9ca1bf6f827fbcce65d56b87feb55d125ad63ae06b6e95560703e5191d9") false
    over (fun _ h => by cases h) (by kernel_rfl) (fun _ h => by cases h) insDecodes_row_tie rfl ⟨rfl, rfl⟩ (by kernel_rfl) rfl
    (fun f fn hf hfn => by
      obtain rfl : f = 4 := Option.some.inj ((show Tryd.prog.funcNamed Rows.insDecodesRow.func = some 4 by kernel_rfl).symm.trans hf) |>.symm
      obtain rfl : fn = Tryd.f4 := (Option.some.inj (Tryd.func4.symm.trans hfn)).symm
      exact ⟨by kernel_rfl, fun j t ht => by
        have h3 : Tryd.f4.params.all (fun t => !Tryd.prog.wantsStandIn t) = true := by kernel_rfl
        rw [Array.all_eq_true] at h3
        have hj := Array.getElem?_eq_some_iff.1 ht
        obtain ⟨hj, rfl⟩ := hj
        have := h3 j hj
        have g : Tryd.prog.wantsStandIn (Tryd.f4.params[j]) = false := by simpa only [Bool.not_eq_true'] using this
        exact g⟩)
    (by kernel_rfl)
#print axioms card
end Go.Proofs.YtbdlhhajblhmiaaDoor.insDecodes
namespace Go.Proofs.YtbdlhhajblhmiaaDoor
/-- The tied card, under a short name, for the claim. -/
theorem insDecodes_holds : Rows.InsDecodesCardSaid := insDecodes.card
end Go.Proofs.YtbdlhhajblhmiaaDoor
