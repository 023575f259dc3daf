/- BitsRange, over words: signed by n bits a word lies from -2^(n-1) up to 2^(n-1), without it; just such numbers fit, and just those from 0 up to 2^n without signs. -/
import Derived.Test.YtldpmehcpiamlaaLBitsRange
namespace Go.Proofs.Ytldpmehcpiamlaa.Pure
open Go.RowKit Go.Proofs.Ytldpmehcpiamlaa.PBitsRange Go.Proofs.YtldpmehcpiamlaaW.PrintWords Go.Proofs.YtldpmehcpiamlaaW.PrintLast Go.Proofs.Ytldpmehcpiamlaa.Bv Go.Proofs.Ytldpmehcpiamlaa.Bw Go.Proofs.Ytldpmehcpiamlaa.LBitsRange

theorem pow_half (n : Nat) (h : 1 ≤ n) : (2 : Int) ^ n = 2 * 2 ^ (n - 1) := by
  obtain ⟨m, rfl⟩ : ∃ m, n = m + 1 := ⟨n - 1, by omega⟩
  rw [Int.pow_succ, Nat.add_sub_cancel]; omega
theorem pow_le_top (n : Nat) (h : n ≤ 62) : (2 : Int) ^ n ≤ 4611686018427387904 := by
  have : 2 ^ n ≤ 2 ^ 62 := Nat.pow_le_pow_right (by decide) h
  have e : ((2 ^ n : Nat) : Int) = 2 ^ n := by simp
  omega
theorem pow_pos' (n : Nat) : (0 : Int) < 2 ^ n := Int.pow_pos (by decide)
theorem sg_range (v : BitVec 64) (n : Nat) (h1 : 1 ≤ n) (h2 : n ≤ 64) : -(2 : Int) ^ (n - 1) ≤ S (sg v n) ∧ S (sg v n) < 2 ^ (n - 1) := by
  unfold S
  rw [sg_toInt v n h1 h2, Int.bmod_def]
  have hp := pow_half n h1
  have hq := pow_pos' (n - 1)
  have e : ((2 ^ n : Nat) : Int) = 2 ^ n := by simp
  rw [e, hp]
  generalize (2 : Int) ^ (n - 1) = c at *
  have g := Int.emod_lt_of_pos (v.toNat : Int) (show (0 : Int) < 2 * c by omega)
  have g' := Int.emod_nonneg (v.toNat : Int) (show 2 * c ≠ 0 by omega)
  split <;> omega
theorem mod_signed (v : BitVec 64) (n : Nat) (h2 : n ≤ 64) : (v.toNat : Int) % 2 ^ n = v.toInt % 2 ^ n := by
  rw [BitVec.toInt_eq_toNat_cond]
  split
  · rfl
  · have e : ((2 ^ 64 : Nat) : Int) = 2 ^ n * 2 ^ (64 - n) := by
      rw [← Int.pow_add, show n + (64 - n) = 64 by omega]; rfl
    rw [e, Int.sub_mul_emod_self_left]
theorem sg_iff (v : BitVec 64) (n : Nat) (h1 : 1 ≤ n) (h2 : n ≤ 64) : sg v n = v ↔ -(2 : Int) ^ (n - 1) ≤ S v ∧ S v < 2 ^ (n - 1) := by
  constructor
  · intro h
    have g := sg_range v n h1 h2
    rwa [h] at g
  · intro h
    rw [← S_inj]
    show (sg v n).toInt = v.toInt
    have h' : -(2 : Int) ^ (n - 1) ≤ v.toInt ∧ v.toInt < 2 ^ (n - 1) := h
    rw [sg_toInt v n h1 h2, Int.bmod_def]
    have e : ((2 ^ n : Nat) : Int) = 2 ^ n := by simp
    rw [e, mod_signed v n h2]
    have hp := pow_half n h1
    have hq := pow_pos' (n - 1)
    rw [hp]
    generalize (2 : Int) ^ (n - 1) = c at *
    generalize v.toInt = x at *
    by_cases hx : 0 ≤ x
    · rw [Int.emod_eq_of_lt hx (by omega)]; split <;> omega
    · have : x % (2 * c) = x + 2 * c := by
        rw [← Int.add_emod_right, Int.emod_eq_of_lt (by omega) (by omega)]
      rw [this]; split <;> omega
theorem BitsRange : caponierlaw01_BitsRange.Pure := by
  intro a0 a1 h0 h1
  obtain ⟨v, rfl⟩ := ex_U h0
  have b1 := wf_u8 h1
  refine ⟨12, ?_⟩
  unfold caponierlaw01_BitsRange.f
  rw [awake_is (Nat.le_refl _)]
  simp only [Option.bind_some, if_true]
  obtain ⟨q, hq⟩ : ∃ q, wrap64 (1 + Int.tmod (wrap64 a1) 63) = q := ⟨_, rfl⟩
  have hq1 : 1 ≤ q ∧ q ≤ 63 := by
    rw [← hq, wrap_in (n := a1) (by omega) (by omega), Int.tmod_eq_emod_of_nonneg (by omega), wrap_in (by omega) (by omega)]; omega
  rw [hq, wrap_in (n := q - 1) (by omega) (by omega), wrapu_in (n := q - 1) (by omega) (by omega), wrapSU]
  have hc := pow_le_top (q - 1).toNat (by omega)
  have hc' := pow_pos' (q - 1).toNat
  have hs : shl .i64 1 (q - 1) = 2 ^ (q - 1).toNat := by
    unfold shl
    rw [show (IntKind.i64.bits : Nat) = 64 from rfl, Nat.min_eq_left (by omega), IntKind.wrap_i64]; omega
  have hr := sg_range v q.toNat (by omega) (by omega)
  have hi := sg_iff v q.toNat (by omega) (by omega)
  have hp := pow_half q.toNat (by omega)
  have hu : U v < 2 ^ q.toNat ↔ v.toNat < 2 ^ q.toNat := by
    unfold U
    have e : ((2 ^ q.toNat : Nat) : Int) = 2 ^ q.toNat := by simp
    omega
  rw [show q.toNat - 1 = (q - 1).toNat by omega] at hr hi hp
  rw [hs]
  generalize (2 : Int) ^ (q - 1).toNat = c at *
  rw [wrap_in (n := -c) (by omega) (by omega), if_pos (by omega), sign_yes v hq1.1 (by omega)]
  simp only [Option.bind_some]
  rw [if_pos hr.1, if_pos hr.2, fits_yes v hq1.1 (by omega), wrapu_in (n := c) (by omega) (by omega), wrapu_in (n := c * 2) (by omega) (by omega)]
  simp only [Option.bind_some]
  have last : ((bits_FitsU.f (U v) q).bind fun t134 => if (t134 == decide (U v < c * 2)) = true then ((bits_Fits.f (S v) 64).bind fun t135 => if t135 = true then ((bits_FitsU.f (U v) 64).bind fun t136 => some t136) else some false) else some false) = some true := by
    rw [fitsU_yes v hq1.1 (by omega), fits_yes v (by decide) (by decide), fitsU_yes v (by decide) (by decide)]
    simp only [Option.bind_some]
    rw [if_pos (by
      rw [beq_iff_eq, decide_eq_decide]
      rw [← hu, hp]; omega)]
    rw [if_pos (by
      rw [decide_eq_true_iff, sg_iff v _ (by decide) (by decide)]
      exact ⟨S_ge v, S_lt v⟩)]
    rw [decide_eq_true (show v.toNat < 2 ^ (64 : Int).toNat from v.isLt)]
  by_cases hx : S v ≥ -c
  · rw [if_pos hx, if_pos (by rw [beq_iff_eq, decide_eq_decide, hi]; omega)]
    exact last
  · rw [if_neg hx, if_pos (by rw [beq_iff_eq, decide_eq_false_iff_not, hi]; omega)]
    exact last
end Go.Proofs.Ytldpmehcpiamlaa.Pure
