/- What the printed functions of the packages bits and caponierref01 come to, in words of 64 bits. -/
import Derived.Test.YtldpmehcpiamlaaQBitsSignsx3
import Derived.Test.YtldpmehcpiamlaaBw
set_option linter.unusedVariables false
set_option linter.unusedSimpArgs false
namespace Go.Proofs.Ytldpmehcpiamlaa.LBitsSigns
open Go.RowKit Go.Proofs.Ytldpmehcpiamlaa.PBitsSigns Go.Proofs.YtldpmehcpiamlaaW.PrintWords Go.Proofs.YtldpmehcpiamlaaW.PrintLast Go.Proofs.Ytldpmehcpiamlaa.Bv Go.Proofs.Ytldpmehcpiamlaa.Bw

theorem may_yes {f n : Int} (h0 : 0 ≤ f) (h1 : 0 ≤ n) (h2 : f + n ≤ 64) : bits_may.f f n = some true := by
  unfold bits_may.f
  rw [if_pos h0, if_pos (by omega), if_pos h1, wrap_in (by omega) (by omega), decide_eq_true (by omega)]
theorem may_no {f n : Int} (h : ¬ (0 ≤ f ∧ 0 ≤ n ∧ f + n ≤ 64)) : bits_may.f f n = some false := by
  unfold bits_may.f
  by_cases h0 : f ≥ 0
  · rw [if_pos h0]
    by_cases h1 : f ≤ 64
    · rw [if_pos h1]
      by_cases h2 : n ≥ 0
      · rw [if_pos h2, wrap_in (by omega) (by omega), decide_eq_false (by omega)]
      · rw [if_neg h2]
    · rw [if_neg h1]
  · rw [if_neg h0]
theorem one_U : (1 : Int) = U 1#64 := rfl
theorem zero_U : (0 : Int) = U 0#64 := rfl
theorem mask_is {n : Int} (h : 0 ≤ n) : bits_mask.f n = some (U (msk n.toNat)) := by
  unfold bits_mask.f
  rw [if_pos h, one_U, shl_U, subU]; rfl
theorem field_yes (v : BitVec 64) {f n : Int} (h0 : 0 ≤ f) (h1 : 0 ≤ n) (h2 : f + n ≤ 64) : bits_Field.f (U v) f n = some (U (fld v f.toNat n.toNat), true) := by
  unfold bits_Field.f
  rw [may_yes h0 h1 h2]; simp only [Option.bind_some, if_true]; rw [if_pos h0, mask_is h1]; simp only [Option.bind_some]; rw [shr_U, and_U]; rfl
theorem field_no (a : Int) {f n : Int} (h : ¬ (0 ≤ f ∧ 0 ≤ n ∧ f + n ≤ 64)) : bits_Field.f a f n = some (0, false) := by
  unfold bits_Field.f
  rw [may_no h]; rfl
theorem put_yes (v x : BitVec 64) {f n : Int} (h0 : 0 ≤ f) (h1 : 0 ≤ n) (h2 : f + n ≤ 64) : bits_Put.f (U v) f n (U x) = some (U (pt v f.toNat n.toNat x), true) := by
  unfold bits_Put.f
  rw [may_yes h0 h1 h2]; simp only [Option.bind_some, if_true]; rw [mask_is h1]; simp only [Option.bind_some]; rw [if_pos h0, shl_U, and_U, shl_U, andNot_U, or_U]; rfl
theorem put_no (a b : Int) {f n : Int} (h : ¬ (0 ≤ f ∧ 0 ≤ n ∧ f + n ≤ 64)) : bits_Put.f a f n b = some (0, false) := by
  unfold bits_Put.f
  rw [may_no h]; rfl
theorem sign_yes (v : BitVec 64) {n : Int} (h1 : 1 ≤ n) (h2 : n ≤ 64) : bits_Sign.f (U v) n = some (S (sg v n.toNat)) := by
  unfold bits_Sign.f
  rw [if_neg (by omega), if_neg (by omega), wrap_in (n := 64 - n) (by omega) (by omega), if_pos (by omega), shl_U, wrapSU, shr_S _ _ (by omega)]
  unfold sg
  rw [show (64 - n).toNat = 64 - n.toNat by omega]
theorem sign_no (a : Int) {n : Int} (h : ¬ (1 ≤ n ∧ n ≤ 64)) : bits_Sign.f a n = some 0 := by
  unfold bits_Sign.f
  by_cases h1 : n < 1
  · rw [if_pos h1]
  · rw [if_neg h1, if_pos (by omega)]
theorem fits_yes (x : BitVec 64) {n : Int} (h1 : 1 ≤ n) (h2 : n ≤ 64) : bits_Fits.f (S x) n = some (decide (sg x n.toNat = x)) := by
  unfold bits_Fits.f
  rw [if_pos h1, if_pos h2, wrapUS, sign_yes x h1 h2]; simp only [Option.bind_some, S_beq]
theorem fits_no (a : Int) {n : Int} (h : ¬ (1 ≤ n ∧ n ≤ 64)) : bits_Fits.f a n = some false := by
  unfold bits_Fits.f
  by_cases h1 : n ≥ 1
  · rw [if_pos h1, if_neg (by omega)]
  · rw [if_neg h1]
theorem fitsU_yes (x : BitVec 64) {n : Int} (h1 : 1 ≤ n) (h2 : n ≤ 64) : bits_FitsU.f (U x) n = some (decide (x.toNat < 2 ^ n.toNat)) := by
  unfold bits_FitsU.f
  rw [if_pos h1, if_pos h2, mask_is (by omega)]
  simp only [Option.bind_some]
  rw [andNot_U, zero_U, U_beq, decide_eq_decide.mpr (mask_zero x n.toNat (by omega))]
theorem fitsU_no (a : Int) {n : Int} (h : ¬ (1 ≤ n ∧ n ≤ 64)) : bits_FitsU.f a n = some false := by
  unfold bits_FitsU.f
  by_cases h1 : n ≥ 1
  · rw [if_pos h1, if_neg (by omega)]
  · rw [if_neg h1]
theorem awake_is {k : Nat} (h : 12 ≤ k) : caponierlaw01_awake.f k = some true :=
  at_rounds (fun k => caponierlaw01_awake.mono k) h (by decide +kernel)
theorem bit_is (v : BitVec 64) {i : Int} (h0 : 0 ≤ i) (h1 : i < 64) : caponierref01_Bit.f (U v) i = some (((v.getLsbD i.toNat).toNat : Nat) : Int) := by
  unfold caponierref01_Bit.f
  rw [wrapu_in h0 (by omega), if_pos h0, shr_U, Int.tmod_eq_emod_of_nonneg (U_nonneg _)]
  congr 1
  unfold U
  rw [BitVec.toNat_ushiftRight, Nat.shiftRight_eq_div_pow, ← bit_of]
  rfl
/-- One more bit, as the loops of the reference take it. -/
theorem step_bit (T : BitVec 64) (j : Nat) : IntKind.u64.wrap (IntKind.u64.wrap (2 * ((T.toNat / 2 ^ (j + 1) : Nat) : Int)) + (((T.getLsbD j).toNat : Nat) : Int)) = ((T.toNat / 2 ^ j : Nat) : Int) := by
  rw [← bit_of]
  have e := acc T.toNat j
  have l := T.isLt
  have l1 : T.toNat / 2 ^ j ≤ T.toNat := Nat.div_le_self _ _
  rw [wrapu_in (n := 2 * _) (by omega) (by omega), wrapu_in (by omega) (by omega)]
  omega
theorem ref_sign_l (v : BitVec 64) (n : Int) (h1 : 1 ≤ n) (h2 : n ≤ 64) (j : Nat) : j ≤ 64 → ∀ k, j < k → caponierref01_Sign.l0 k (U v) n (((sg v n.toNat).toNat / 2 ^ j : Nat) : Int) ((j : Int) - 1) = some (S (sg v n.toNat)) := by
  induction j with
  | zero =>
    intro _ k hk
    obtain ⟨k, rfl⟩ : ∃ m, k = m + 1 := ⟨k - 1, by omega⟩
    simp only [caponierref01_Sign.l0]
    rw [if_neg (by omega)]
    simp only [Nat.pow_zero, Nat.div_one]
    exact congrArg some (wrapSU _)
  | succ j ih =>
    intro hj k hk
    obtain ⟨k, rfl⟩ : ∃ m, k = m + 1 := ⟨k - 1, by omega⟩
    have e0 : ((j + 1 : Nat) : Int) - 1 = (j : Int) := by omega
    simp only [caponierref01_Sign.l0]
    rw [e0, if_pos (by omega), wrap_in (n := n - 1) (by omega) (by omega), bit_is v (by omega) (by omega)]
    simp only [Option.bind_some]
    have ih' := ih (by omega) k (by omega)
    rw [wrap_in (n := (j : Int) - 1) (by omega) (by omega)]
    have st := step_bit (sg v n.toNat) j
    have bs := bit_sg v n.toNat (by omega) (by omega) j (by omega)
    by_cases hlt : (j : Int) < n
    · rw [if_pos hlt, bit_is v (by omega) (by omega)]
      simp only [Option.bind_some, Int.toNat_natCast]
      rw [if_pos (by omega)] at bs
      rw [bs] at st
      rw [st]; exact ih'
    · rw [if_neg hlt]
      rw [if_neg (by omega)] at bs
      rw [bs, show n.toNat - 1 = (n - 1).toNat by omega] at st
      rw [st]; exact ih'
theorem ref_sign_yes (v : BitVec 64) {n : Int} (h1 : 1 ≤ n) (h2 : n ≤ 64) {k : Nat} (hk : 67 ≤ k) : caponierref01_Sign.f k (U v) n = some (S (sg v n.toNat)) := by
  unfold caponierref01_Sign.f
  obtain ⟨k, rfl⟩ : ∃ m, k = m + 1 := ⟨k - 1, by omega⟩
  rw [if_neg (by omega), decide_eq_false (by omega)]
  simp only [caponierref01_Sign.j0]
  have g := ref_sign_l v n h1 h2 64 (by omega) k (by omega)
  rw [Nat.div_eq_of_lt (sg v n.toNat).isLt] at g
  exact g
theorem ref_sign_no (a : Int) {n : Int} (h : ¬ (1 ≤ n ∧ n ≤ 64)) {k : Nat} (hk : 67 ≤ k) : caponierref01_Sign.f k a n = some 0 := by
  unfold caponierref01_Sign.f
  obtain ⟨k, rfl⟩ : ∃ m, k = m + 1 := ⟨k - 1, by omega⟩
  by_cases h1 : n < 1
  · rw [if_pos h1]; rfl
  · rw [if_neg h1, decide_eq_true (by omega)]; rfl
theorem ref_fits_yes (x : BitVec 64) {n : Int} (h1 : 1 ≤ n) (h2 : n ≤ 64) {k : Nat} (hk : 67 ≤ k) : caponierref01_Fits.f k (S x) n = some (decide (sg x n.toNat = x)) := by
  unfold caponierref01_Fits.f
  rw [if_pos h1, if_pos h2, wrapUS, ref_sign_yes x h1 h2 hk]; simp only [Option.bind_some, S_beq]
theorem ref_fits_no (a : Int) {n : Int} (h : ¬ (1 ≤ n ∧ n ≤ 64)) {k : Nat} : caponierref01_Fits.f k a n = some false := by
  unfold caponierref01_Fits.f
  by_cases h1 : n ≥ 1
  · rw [if_pos h1, if_neg (by omega)]
  · rw [if_neg h1]
theorem ref_fitsU_l (v : BitVec 64) (d : Nat) : ∀ i : Nat, i + d = 64 → ∀ k, d < k → caponierref01_FitsU.l0 k (U v) (i : Int) = some (decide (v.toNat < 2 ^ i)) := by
  induction d with
  | zero =>
    intro i hi k hk
    obtain ⟨k, rfl⟩ : ∃ m, k = m + 1 := ⟨k - 1, by omega⟩
    obtain rfl : i = 64 := by omega
    simp only [caponierref01_FitsU.l0]
    rw [if_neg (by omega), decide_eq_true v.isLt]
  | succ d ih =>
    intro i hi k hk
    obtain ⟨k, rfl⟩ : ∃ m, k = m + 1 := ⟨k - 1, by omega⟩
    simp only [caponierref01_FitsU.l0]
    rw [if_pos (by omega), bit_is v (by omega) (by omega)]
    simp only [Option.bind_some, Int.toNat_natCast]
    have hp : 2 ^ (i + 1) = 2 * 2 ^ i := by rw [Nat.pow_succ]; omega
    have hb := bit_of v i
    cases hg : v.getLsbD i with
    | true =>
      rw [hg] at hb
      rw [if_pos (show (((true.toNat : Nat)) : Int) = 1 from rfl)]
      congr 1
      symm
      rw [decide_eq_false_iff_not]
      intro hlt
      rw [Nat.div_eq_of_lt hlt] at hb
      simp at hb
    | false =>
      rw [hg] at hb
      simp only [Bool.toNat_false] at hb
      rw [if_neg (by simp), wrap_in (by omega) (by omega)]
      have g := ih (i + 1) (by omega) k (by omega)
      rw [show ((i + 1 : Nat) : Int) = (i : Int) + 1 by omega] at g
      rw [g]
      congr 1
      rw [decide_eq_decide]
      have hpos : 0 < 2 ^ i := Nat.pow_pos (by decide)
      constructor
      · intro hl
        have : v.toNat / 2 ^ i < 2 := by rw [Nat.div_lt_iff_lt_mul hpos]; omega
        have h0 : v.toNat / 2 ^ i = 0 := by generalize v.toNat / 2 ^ i = q at this hb ⊢; omega
        rcases (Nat.div_eq_zero_iff).1 h0 with h0 | h0
        · omega
        · exact h0
      · intro hl; omega
theorem ref_fitsU_yes (x : BitVec 64) {n : Int} (h1 : 1 ≤ n) (h2 : n ≤ 64) {k : Nat} (hk : 67 ≤ k) : caponierref01_FitsU.f k (U x) n = some (decide (x.toNat < 2 ^ n.toNat)) := by
  unfold caponierref01_FitsU.f
  obtain ⟨k, rfl⟩ : ∃ m, k = m + 1 := ⟨k - 1, by omega⟩
  rw [if_neg (by omega), decide_eq_false (by omega)]
  simp only [caponierref01_FitsU.j0]
  have g := ref_fitsU_l x (64 - n.toNat) n.toNat (by omega) k (by omega)
  rw [Int.toNat_of_nonneg (by omega)] at g
  exact g
theorem ref_fitsU_no (a : Int) {n : Int} (h : ¬ (1 ≤ n ∧ n ≤ 64)) {k : Nat} (hk : 67 ≤ k) : caponierref01_FitsU.f k a n = some false := by
  unfold caponierref01_FitsU.f
  obtain ⟨k, rfl⟩ : ∃ m, k = m + 1 := ⟨k - 1, by omega⟩
  by_cases h1 : n < 1
  · rw [if_pos h1]; rfl
  · rw [if_neg h1, decide_eq_true (by omega)]; rfl

end Go.Proofs.Ytldpmehcpiamlaa.LBitsSigns
