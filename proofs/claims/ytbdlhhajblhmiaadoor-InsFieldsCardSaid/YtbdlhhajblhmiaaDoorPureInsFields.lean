/- The plain law of InsFields. No condition. -/
import Derived.Test.YtbdlhhajblhmiaaDoorQInsFieldsx2
import Derived.Test.YtbdlhhajblhmiaaDoorInsR
set_option linter.unusedVariables false
set_option linter.unusedSimpArgs false
namespace Go.Proofs.YtbdlhhajblhmiaaDoor.Pure
open Go.RowKit Go.Proofs.YtbdlhhajblhmiaaDoor.QInsFields Go.Proofs.YtbdlhhajblhmiaaDoorW.PrintWords Go.Proofs.YtbdlhhajblhmiaaDoorW.PrintLast Go.Proofs.YtbdlhhajblhmiaaDoor.Bv Go.Proofs.YtbdlhhajblhmiaaDoor.Ins

theorem awake_is : caponierlaw02_awake.f = some true := by decide +kernel
theorem InsFields (op d a b n : Int) (h0 : (Lit.int .i64 op).wf = true) (h1 : (Lit.int .i64 d).wf = true) (h2 : (Lit.int .i64 a).wf = true) (h3 : (Lit.int .i64 b).wf = true) (h4 : (Lit.int .i64 n).wf = true) :
    ∃ k, caponierlaw02_InsFields.f k op d a b n = some true := by
  refine ⟨1, ?_⟩
  unfold caponierlaw02_InsFields.f
  rw [awake_is, Option.bind_some, if_pos rfl]
  have ee : ins_Encode.f op d a b n = encO op d a b n := rfl
  have ef : ins_Form.f op = some (formF op) := rfl
  rw [ee, ef]
  by_cases m : MayS op d a b n
  · rw [encO_yes h4 m, Option.bind_some]
    obtain ⟨x, rfl⟩ := Int.eq_ofNat_of_zero_le m.op0
    have hx : x ≤ 42 := by have := m.op1; omega
    have r := encS_range x d a b n m
    obtain ⟨g0, g1, g2, g3⟩ := encS_fields m
    rw [formF_at m.op0 m.op1]
    simp only [Int.toNat_natCast, Option.bind_some]
    rw [if_pos trivial, Int.tmod_eq_emod_of_nonneg r.1, if_pos g0]
    generalize encS x d a b n = w at *
    have q1 : Int.tmod (wrap64 (w / 128)) 32 = w / 128 % 32 := by rw [wrap_in (by omega) (by omega), Int.tmod_eq_emod_of_nonneg (by omega)]
    have q2 : Int.tmod (wrap64 (w / 32768)) 32 = w / 32768 % 32 := by rw [wrap_in (by omega) (by omega), Int.tmod_eq_emod_of_nonneg (by omega)]
    have q3 : Int.tmod (wrap64 (w / 1048576)) 32 = w / 1048576 % 32 := by rw [wrap_in (by omega) (by omega), Int.tmod_eq_emod_of_nonneg (by omega)]
    have sl := s_list (fm x)
    simp only [caponierlaw02_InsFields.j0, q1, q2, q3, sl]
    cases hf : fm x <;> rw [hf] at g1 g2 g3 <;> simp only [Fm.c]
    · rw [g1 (by decide) (by decide) (by decide), g2 (by simp), g3 (by simp)]; simp
    · rw [g1 (by decide) (by decide) (by decide), g2 (by simp)]; simp
    · rw [g2 (by simp), g3 (by simp)]; simp
    · rw [g2 (by simp), g3 (by simp)]; simp
    · rw [g1 (by decide) (by decide) (by decide)]; simp
    · rw [g1 (by decide) (by decide) (by decide)]; simp
    · simp
  · rw [encO_no h4 m, Option.bind_some]
    rw [if_neg (by decide)]
    rfl
end Go.Proofs.YtbdlhhajblhmiaaDoor.Pure
