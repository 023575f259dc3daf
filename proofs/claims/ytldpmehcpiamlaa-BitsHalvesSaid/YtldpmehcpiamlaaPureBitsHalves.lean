/- BitsHalves, over words: a word is its upper and lower fields, put together at any bit; a field within a field is a field. -/
import Derived.Test.YtldpmehcpiamlaaLBitsHalves
namespace Go.Proofs.Ytldpmehcpiamlaa.Pure
open Go.RowKit Go.Proofs.Ytldpmehcpiamlaa.PBitsHalves Go.Proofs.YtldpmehcpiamlaaW.PrintWords Go.Proofs.YtldpmehcpiamlaaW.PrintLast Go.Proofs.Ytldpmehcpiamlaa.Bv Go.Proofs.Ytldpmehcpiamlaa.Bw Go.Proofs.Ytldpmehcpiamlaa.LBitsHalves

theorem BitsHalves : caponierlaw01_BitsHalves.Pure := by
  intro a0 a1 a2 h0 h1 h2
  obtain ⟨v, rfl⟩ := ex_U h0
  have b1 := wf_u8 h1
  have b2 := wf_u8 h2
  refine ⟨12, ?_⟩
  unfold caponierlaw01_BitsHalves.f
  rw [awake_is (Nat.le_refl _)]
  simp only [Option.bind_some, if_true]
  obtain ⟨q, hq⟩ : ∃ q, Int.tmod (wrap64 a1) 65 = q := ⟨_, rfl⟩
  have hq1 : 0 ≤ q ∧ q ≤ 64 := by
    rw [← hq, wrap_in (by omega) (by omega), Int.tmod_eq_emod_of_nonneg (by omega)]; omega
  rw [hq]
  have e64 : wrap64 (64 - q) = 64 - q := wrap_in (by omega) (by omega)
  have e65 : wrap64 (64 - q + 1) = 64 - q + 1 := wrap_in (by omega) (by omega)
  rw [e64, e65]
  obtain ⟨m, hm⟩ : ∃ m, Int.tmod (wrap64 a2) (64 - q + 1) = m := ⟨_, rfl⟩
  have hm1 : 0 ≤ m ∧ m ≤ 64 - q := by
    have g := Int.emod_lt_of_pos a2 (show (0 : Int) < 64 - q + 1 by omega)
    have g' := Int.emod_nonneg a2 (show 64 - q + 1 ≠ 0 by omega)
    rw [← hm, wrap_in (by omega) (by omega), Int.tmod_eq_emod_of_nonneg (by omega)]; omega
  rw [hm, field_yes v (Int.le_refl 0) hq1.1 (by omega)]
  simp only [Option.bind_some]
  rw [field_yes v hq1.1 (by omega) (by omega)]
  simp only [Option.bind_some]
  rw [put_yes _ _ hq1.1 (by omega) (by omega)]
  simp only [Option.bind_some]
  rw [if_neg (by omega), field_yes _ (Int.le_refl 0) hm1.1 (by omega)]
  simp only [Option.bind_some]
  rw [field_yes v hq1.1 hm1.1 (by omega)]
  simp only [Option.bind_some, if_true, Int.toNat_zero]
  rw [show (64 - q).toNat = 64 - q.toNat by omega, halves v q.toNat (by omega), if_pos rfl, fld_fld v _ _ _ (by omega) (by omega)]
  simp
end Go.Proofs.Ytldpmehcpiamlaa.Pure
