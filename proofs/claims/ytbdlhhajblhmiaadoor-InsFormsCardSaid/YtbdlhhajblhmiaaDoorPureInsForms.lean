/- The plain law of InsForms. No condition. -/
import Derived.Test.YtbdlhhajblhmiaaDoorQInsFormsx2
import Derived.Test.YtbdlhhajblhmiaaDoorInsP
set_option linter.unusedVariables false
set_option linter.unusedSimpArgs false
namespace Go.Proofs.YtbdlhhajblhmiaaDoor.Pure
open Go.RowKit Go.Proofs.YtbdlhhajblhmiaaDoor.QInsForms Go.Proofs.YtbdlhhajblhmiaaDoorW.PrintWords Go.Proofs.YtbdlhhajblhmiaaDoorW.PrintLast Go.Proofs.YtbdlhhajblhmiaaDoor.Bv

theorem awake_is : caponierlaw02_awake.f = some true := by decide +kernel
theorem InsForms : caponierlaw02_InsForms.Pure := by
  intro a0 a1 h0 h1
  refine ⟨1, ?_⟩
  have w0 := wf_i64 h0
  have w1 := wf_i64 h1
  unfold caponierlaw02_InsForms.f
  rw [awake_is, Option.bind_some, if_pos rfl]
  have ef : ins_Form.f a0 = some (Ins.formF a0) := rfl
  have em : ∀ x y z u v, ins_May.f x y z u v = Ins.mayO x y z u v := fun _ _ _ _ _ => rfl
  have hf := Ins.form_empty a0
  rw [ef, Option.bind_some]
  simp only [caponierlaw02_InsForms.j0, em]
  by_cases hn : a0 < 0
  · rw [if_pos hn]
    have e : (Ins.formF a0).toList = ([] : List UInt8) := hf.2 (by omega)
    have m : Ins.mayO a0 0 0 0 0 = some false := by
      rw [show Ins.mayO a0 0 0 0 0 = Ins.mayO a0 0 0 0 (S 0#64) from rfl, Ins.may_in, Ins.may_none _ _ _ _ (by omega)]
    rw [e, m]; rfl
  · rw [if_neg hn]
    by_cases hb : 42 < a0
    · have e : (Ins.formF a0).toList = ([] : List UInt8) := hf.2 (by omega)
      have m : Ins.mayO a0 0 0 0 0 = some false := by
        rw [show Ins.mayO a0 0 0 0 0 = Ins.mayO a0 0 0 0 (S 0#64) from rfl, Ins.may_in, Ins.may_none _ _ _ _ (by omega)]
      rw [e, m, show decide (a0 > 42) = true from decide_eq_true hb]; rfl
    · have e : ¬ ((Ins.formF a0).toList = ([] : List UInt8)) := fun h => hf.1 h ⟨by omega, by omega⟩
      have e2 : ((Ins.formF a0).toList == ([] : List UInt8)) = false := beq_eq_false_iff_ne.2 e
      rw [e2, show decide (a0 > 42) = false from decide_eq_false hb, if_neg (by decide), if_neg e, Ins.may_zero a0 (by omega) (by omega), Option.bind_some, if_pos rfl]
      by_cases hr : a1 < 0
      · rw [if_pos hr]
      · rw [if_neg hr]
        have b := Int.tmod_nonneg 100 (show 0 ≤ a1 by omega)
        have b2 := Int.tmod_lt_of_pos a1 (show (0 : Int) < 100 by decide)
        rw [wrap_in (by omega) (by omega), Ins.may_bad _ _ (by omega)]; rfl
end Go.Proofs.YtbdlhhajblhmiaaDoor.Pure
