/- BitsOnes, over words: the lowest n bits of a word are what it is modulo 2^n; signed by n bits a word and the same one with other upper bits are one number. -/
import Derived.Test.YtldpmehcpiamlaaLBitsOnes
namespace Go.Proofs.Ytldpmehcpiamlaa.Pure
open Go.RowKit Go.Proofs.Ytldpmehcpiamlaa.PBitsOnes Go.Proofs.YtldpmehcpiamlaaW.PrintWords Go.Proofs.YtldpmehcpiamlaaW.PrintLast Go.Proofs.Ytldpmehcpiamlaa.Bv Go.Proofs.Ytldpmehcpiamlaa.Bw Go.Proofs.Ytldpmehcpiamlaa.LBitsOnes

theorem shl_one (q : Int) (h0 : 0 ≤ q) (h1 : q ≤ 63) : shl .u64 1 q = ((2 ^ q.toNat : Nat) : Int) := by
  rw [one_U, shl_U]
  unfold U
  rw [BitVec.toNat_shiftLeft, Nat.shiftLeft_eq, show (1#64).toNat = 1 from rfl, Nat.one_mul, Nat.mod_eq_of_lt]
  exact Nat.pow_lt_pow_right (by decide) (by omega)
theorem BitsOnes : caponierlaw01_BitsOnes.Pure := by
  intro a0 a1 a2 h0 h1 h2
  obtain ⟨v, rfl⟩ := ex_U h0
  obtain ⟨w, rfl⟩ := ex_U h1
  have b2 := wf_u8 h2
  refine ⟨12, ?_⟩
  unfold caponierlaw01_BitsOnes.f
  rw [awake_is (Nat.le_refl _)]
  simp only [Option.bind_some, if_true]
  obtain ⟨q, hq⟩ : ∃ q, wrap64 (1 + Int.tmod (wrap64 a2) 63) = q := ⟨_, rfl⟩
  have hq1 : 1 ≤ q ∧ q ≤ 63 := by
    rw [← hq, wrap_in (n := a2) (by omega) (by omega), Int.tmod_eq_emod_of_nonneg (by omega), wrap_in (by omega) (by omega)]; omega
  rw [hq, wrapu_in (n := q) (by omega) (by omega)]
  rw [field_yes v (Int.le_refl 0) (by omega) (by omega)]
  simp only [Option.bind_some]
  rw [put_yes w v (Int.le_refl 0) (by omega) (by omega)]
  simp only [Option.bind_some, if_true]
  have hp : (0 : Int) < ((2 ^ q.toNat : Nat) : Int) := Int.natCast_pos.mpr (Nat.pow_pos (by decide))
  rw [if_pos (by omega), shl_one q (by omega) (by omega), if_neg (by omega)]
  rw [if_pos (by
    rw [Int.tmod_eq_emod_of_nonneg (U_nonneg v)]
    unfold U
    rw [fld_toNat _ _ _ (by omega), ← Int.natCast_emod]
    simp)]
  rw [sign_yes _ hq1.1 (by omega)]
  simp only [Option.bind_some]
  rw [sign_yes _ hq1.1 (by omega)]
  simp only [Option.bind_some, Int.toNat_zero]
  rw [sg_pt w v q.toNat (by omega) (by omega), if_pos rfl, shr_U, shr_U, pt_high w v _ (by omega)]
  simp
end Go.Proofs.Ytldpmehcpiamlaa.Pure
