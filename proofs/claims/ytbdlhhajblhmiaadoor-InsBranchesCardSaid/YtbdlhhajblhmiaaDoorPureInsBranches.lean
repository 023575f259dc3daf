/- The plain law of InsBranches. No condition. -/
import Derived.Test.YtbdlhhajblhmiaaDoorQInsBranchesx2
import Derived.Test.YtbdlhhajblhmiaaDoorInsR
set_option linter.unusedVariables false
set_option linter.unusedSimpArgs false
namespace Go.Proofs.YtbdlhhajblhmiaaDoor.Pure
open Go.RowKit Go.Proofs.YtbdlhhajblhmiaaDoor.QInsBranches Go.Proofs.YtbdlhhajblhmiaaDoorW.PrintWords Go.Proofs.YtbdlhhajblhmiaaDoorW.PrintLast Go.Proofs.YtbdlhhajblhmiaaDoor.Bv Go.Proofs.YtbdlhhajblhmiaaDoor.Ins

theorem awake_is : caponierlaw02_awake.f = some true := by decide +kernel
theorem fm34 : fm 34 = .B := by decide
theorem enc34 (a b n : Int) : encS 34 0 a b n = 99 + 128 * (n / 2048 % 2) + 256 * (n / 2 % 16) + 16384 + 32768 * a + 1048576 * b + 33554432 * (n / 32 % 64) + 2147483648 * (n / 4096 % 2) := by
  unfold encS
  rw [fm34]
  show ((99 : Nat) : Int) + 128 * (n / 2048 % 2) + 256 * (n / 2 % 16) + 4096 * ((4 : Nat) : Int) + 32768 * a + 1048576 * b + 33554432 * (n / 32 % 64) + 2147483648 * (n / 4096 % 2) = _
  omega
theorem parts34 (q u v s a b : Int) (hq : 0 ≤ q ∧ q < 2) (hu : 0 ≤ u ∧ u < 16) (hv : 0 ≤ v ∧ v < 64) (hs : 0 ≤ s ∧ s < 2) (ha : 0 ≤ a ∧ a < 32) (hb : 0 ≤ b ∧ b < 32) (w : Int)
    (hw : w = 99 + 128 * q + 256 * u + 16384 + 32768 * a + 1048576 * b + 33554432 * v + 2147483648 * s) : 0 ≤ w ∧ w < 4294967296 ∧ w / 256 % 16 = u ∧ w / 33554432 % 64 = v ∧ w / 128 % 2 = q ∧ w / 2147483648 = s := by
  refine ⟨?_, ?_, ?_, ?_, ?_, ?_⟩ <;> omega
theorem join34 (n : Int) (h0 : -4096 ≤ n) (h1 : n < 4096) (h2 : n % 2 = 0) : n / 2 % 16 * 2 + n / 32 % 64 * 32 + n / 2048 % 2 * 2048 - n / 4096 % 2 * 4096 = n := by
  have x1 : n = 2 * (n / 2) := by omega
  have x2 : n / 2 = n / 2 % 16 + 16 * (n / 32) := by omega
  have x3 : n / 32 = n / 32 % 64 + 64 * (n / 2048) := by omega
  have x4 : n / 2048 = n / 2048 % 2 + 2 * (n / 4096) := by omega
  have x5 : n / 4096 % 2 = - (n / 4096) := by omega
  generalize n / 2 % 16 = y1 at *
  generalize n / 32 % 64 = y2 at *
  generalize n / 2048 % 2 = y3 at *
  generalize n / 4096 % 2 = y4 at *
  generalize n / 2 = z1 at *
  generalize n / 32 = z2 at *
  generalize n / 2048 = z3 at *
  generalize n / 4096 = z4 at *
  omega
theorem InsBranches : caponierlaw02_InsBranches.Pure := by
  intro a0 a1 a2 h0 h1 h2
  have w0 : -2147483648 ≤ a0 ∧ a0 < 2147483648 := by
    simp [Lit.wf, IntKind.min, IntKind.max, IntKind.signed, IntKind.bits] at h0; omega
  have w1 := wf_u8 h1
  have w2 := wf_u8 h2
  unfold caponierlaw02_InsBranches.f
  rw [awake_is, Option.bind_some, if_pos rfl, wrap_in (by omega) (by omega), wrap_in (by omega) (by omega), wrap_in (by omega) (by omega)]
  rw [Int.tmod_eq_emod_of_nonneg w1.1, Int.tmod_eq_emod_of_nonneg w2.1]
  have wf : (Lit.int .i64 a0).wf = true := WalkArith.wf_i64 (by omega)
  have ee : ins_Encode.f 34 0 (a1 % 32) (a2 % 32) a0 = encO 34 0 (a1 % 32) (a2 % 32) a0 := rfl
  rw [ee]
  have ha : 0 ≤ a1 % 32 ∧ a1 % 32 < 32 := by omega
  have hb : 0 ≤ a2 % 32 ∧ a2 % 32 < 32 := by omega
  generalize a1 % 32 = a at *
  generalize a2 % 32 = b at *
  have tm : ∀ m : Int, (Int.tmod m 2 = 0) ↔ m % 2 = 0 := fun m => by
    rw [← Int.dvd_iff_tmod_eq_zero, Int.dvd_iff_emod_eq_zero]
  by_cases hin : -4096 ≤ a0 ∧ a0 < 4096 ∧ a0 % 2 = 0
  · have m : MayS 34 0 a b a0 := ⟨by decide, by decide, ⟨by decide, by decide, fun _ => rfl⟩, ⟨ha.1, ha.2, fun h => by cases h⟩, ⟨hb.1, hb.2, fun h => by cases h⟩, hin⟩
    rw [encO_yes wf m, Option.bind_some]
    dsimp only
    rw [if_neg (by omega), if_neg (by omega), if_pos ((tm a0).2 hin.2.2), if_pos rfl]
    have e := enc34 a b a0
    have g := parts34 (a0 / 2048 % 2) (a0 / 2 % 16) (a0 / 32 % 64) (a0 / 4096 % 2) a b (by omega) (by omega) (by omega) (by omega) ha hb _ e
    have j := join34 a0 hin.1 hin.2.1 hin.2.2
    have d1 : 0 ≤ a0 / 2048 % 2 ∧ a0 / 2048 % 2 < 2 := by omega
    have d2 : 0 ≤ a0 / 2 % 16 ∧ a0 / 2 % 16 < 16 := by omega
    have d3 : 0 ≤ a0 / 32 % 64 ∧ a0 / 32 % 64 < 64 := by omega
    have d4 : 0 ≤ a0 / 4096 % 2 ∧ a0 / 4096 % 2 < 2 := by omega
    show some _ = some true
    have eN : (34 : Int).toNat = 34 := rfl
    rw [eN]
    obtain ⟨g0, g1, g2, g3, g4, g5⟩ := g
    clear e m ee
    generalize encS 34 0 a b a0 = w at *
    have p1 : 0 ≤ w / 256 := by omega
    have p2 : 0 ≤ w / 33554432 := by omega
    have p3 : 0 ≤ w / 128 := by omega
    rw [Int.tmod_eq_emod_of_nonneg p1, Int.tmod_eq_emod_of_nonneg p2, Int.tmod_eq_emod_of_nonneg p3, g2, g3, g4, g5]
    clear g2 g3 g4 g5 p1 p2 p3 g0 g1 tm
    generalize a0 / 2048 % 2 = q at *
    generalize a0 / 2 % 16 = u at *
    generalize a0 / 32 % 64 = v at *
    generalize a0 / 4096 % 2 = s at *
    rw [wrap_in (n := u) (by omega) (by omega), wrap_in (n := u * 2) (by omega) (by omega), wrap_in (n := v) (by omega) (by omega), wrap_in (n := v * 32) (by omega) (by omega), wrap_in (n := u * 2 + v * 32) (by omega) (by omega), wrap_in (n := q) (by omega) (by omega), wrap_in (n := q * 2048) (by omega) (by omega), wrap_in (n := u * 2 + v * 32 + q * 2048) (by omega) (by omega), wrap_in (n := s) (by omega) (by omega), wrap_in (n := s * 4096) (by omega) (by omega), wrap_in (n := u * 2 + v * 32 + q * 2048 - s * 4096) (by omega) (by omega), j]
    simp
  · have m : ¬ MayS 34 0 a b a0 := fun m => hin (by
      have := m.imm
      rw [show fm (34 : Int).toNat = .B from fm34] at this
      exact this)
    rw [encO_no wf m, Option.bind_some]
    dsimp only
    by_cases c1 : a0 < -4096
    · rw [if_pos c1]; rfl
    · rw [if_neg c1]
      by_cases c2 : a0 > 4094
      · rw [if_pos c2]; rfl
      · rw [if_neg c2]
        rw [if_neg (fun h => hin ⟨by omega, by omega, (tm a0).1 h⟩)]
        rfl
end Go.Proofs.YtbdlhhajblhmiaaDoor.Pure
