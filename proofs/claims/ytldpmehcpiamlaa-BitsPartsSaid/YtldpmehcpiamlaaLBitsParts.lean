/- What the printed functions of the packages bits and caponierref01 come to, in words of 64 bits. -/
import Derived.Test.YtldpmehcpiamlaaQBitsPartsx2
import Derived.Test.YtldpmehcpiamlaaBw
set_option linter.unusedVariables false
set_option linter.unusedSimpArgs false
namespace Go.Proofs.Ytldpmehcpiamlaa.LBitsParts
open Go.RowKit Go.Proofs.Ytldpmehcpiamlaa.PBitsParts Go.Proofs.YtldpmehcpiamlaaW.PrintWords Go.Proofs.YtldpmehcpiamlaaW.PrintLast Go.Proofs.Ytldpmehcpiamlaa.Bv Go.Proofs.Ytldpmehcpiamlaa.Bw

theorem may_yes {f n : Int} (h0 : 0 ≤ f) (h1 : 0 ≤ n) (h2 : f + n ≤ 64) : bits_may.f f n = some true := by
  unfold bits_may.f
  rw [if_pos h0, if_pos (by omega), if_pos h1, wrap_in (by omega) (by omega), decide_eq_true (by omega)]
theorem may_no {f n : Int} (h : ¬ (0 ≤ f ∧ 0 ≤ n ∧ f + n ≤ 64)) : bits_may.f f n = some false := by
  unfold bits_may.f
  by_cases h0 : f ≥ 0
  · rw [if_pos h0]
    by_cases h1 : f ≤ 64
    · rw [if_pos h1]
      by_cases h2 : n ≥ 0
      · rw [if_pos h2, wrap_in (by omega) (by omega), decide_eq_false (by omega)]
      · rw [if_neg h2]
    · rw [if_neg h1]
  · rw [if_neg h0]
theorem one_U : (1 : Int) = U 1#64 := rfl
theorem zero_U : (0 : Int) = U 0#64 := rfl
theorem mask_is {n : Int} (h : 0 ≤ n) : bits_mask.f n = some (U (msk n.toNat)) := by
  unfold bits_mask.f
  rw [if_pos h, one_U, shl_U, subU]; rfl
theorem field_yes (v : BitVec 64) {f n : Int} (h0 : 0 ≤ f) (h1 : 0 ≤ n) (h2 : f + n ≤ 64) : bits_Field.f (U v) f n = some (U (fld v f.toNat n.toNat), true) := by
  unfold bits_Field.f
  rw [may_yes h0 h1 h2]; simp only [Option.bind_some, if_true]; rw [if_pos h0, mask_is h1]; simp only [Option.bind_some]; rw [shr_U, and_U]; rfl
theorem field_no (a : Int) {f n : Int} (h : ¬ (0 ≤ f ∧ 0 ≤ n ∧ f + n ≤ 64)) : bits_Field.f a f n = some (0, false) := by
  unfold bits_Field.f
  rw [may_no h]; rfl
theorem put_yes (v x : BitVec 64) {f n : Int} (h0 : 0 ≤ f) (h1 : 0 ≤ n) (h2 : f + n ≤ 64) : bits_Put.f (U v) f n (U x) = some (U (pt v f.toNat n.toNat x), true) := by
  unfold bits_Put.f
  rw [may_yes h0 h1 h2]; simp only [Option.bind_some, if_true]; rw [mask_is h1]; simp only [Option.bind_some]; rw [if_pos h0, shl_U, and_U, shl_U, andNot_U, or_U]; rfl
theorem put_no (a b : Int) {f n : Int} (h : ¬ (0 ≤ f ∧ 0 ≤ n ∧ f + n ≤ 64)) : bits_Put.f a f n b = some (0, false) := by
  unfold bits_Put.f
  rw [may_no h]; rfl
theorem sign_yes (v : BitVec 64) {n : Int} (h1 : 1 ≤ n) (h2 : n ≤ 64) : bits_Sign.f (U v) n = some (S (sg v n.toNat)) := by
  unfold bits_Sign.f
  rw [if_neg (by omega), if_neg (by omega), wrap_in (n := 64 - n) (by omega) (by omega), if_pos (by omega), shl_U, wrapSU, shr_S _ _ (by omega)]
  unfold sg
  rw [show (64 - n).toNat = 64 - n.toNat by omega]
theorem sign_no (a : Int) {n : Int} (h : ¬ (1 ≤ n ∧ n ≤ 64)) : bits_Sign.f a n = some 0 := by
  unfold bits_Sign.f
  by_cases h1 : n < 1
  · rw [if_pos h1]
  · rw [if_neg h1, if_pos (by omega)]
theorem fits_yes (x : BitVec 64) {n : Int} (h1 : 1 ≤ n) (h2 : n ≤ 64) : bits_Fits.f (S x) n = some (decide (sg x n.toNat = x)) := by
  unfold bits_Fits.f
  rw [if_pos h1, if_pos h2, wrapUS, sign_yes x h1 h2]; simp only [Option.bind_some, S_beq]
theorem fits_no (a : Int) {n : Int} (h : ¬ (1 ≤ n ∧ n ≤ 64)) : bits_Fits.f a n = some false := by
  unfold bits_Fits.f
  by_cases h1 : n ≥ 1
  · rw [if_pos h1, if_neg (by omega)]
  · rw [if_neg h1]
theorem fitsU_yes (x : BitVec 64) {n : Int} (h1 : 1 ≤ n) (h2 : n ≤ 64) : bits_FitsU.f (U x) n = some (decide (x.toNat < 2 ^ n.toNat)) := by
  unfold bits_FitsU.f
  rw [if_pos h1, if_pos h2, mask_is (by omega)]
  simp only [Option.bind_some]
  rw [andNot_U, zero_U, U_beq, decide_eq_decide.mpr (mask_zero x n.toNat (by omega))]
theorem fitsU_no (a : Int) {n : Int} (h : ¬ (1 ≤ n ∧ n ≤ 64)) : bits_FitsU.f a n = some false := by
  unfold bits_FitsU.f
  by_cases h1 : n ≥ 1
  · rw [if_pos h1, if_neg (by omega)]
  · rw [if_neg h1]
theorem awake_is {k : Nat} (h : 12 ≤ k) : caponierlaw01_awake.f k = some true :=
  at_rounds (fun k => caponierlaw01_awake.mono k) h (by decide +kernel)
theorem bit_is (v : BitVec 64) {i : Int} (h0 : 0 ≤ i) (h1 : i < 64) : caponierref01_Bit.f (U v) i = some (((v.getLsbD i.toNat).toNat : Nat) : Int) := by
  unfold caponierref01_Bit.f
  rw [wrapu_in h0 (by omega), if_pos h0, shr_U, Int.tmod_eq_emod_of_nonneg (U_nonneg _)]
  congr 1
  unfold U
  rw [BitVec.toNat_ushiftRight, Nat.shiftRight_eq_div_pow, ← bit_of]
  rfl
/-- One more bit, as the loops of the reference take it. -/
theorem step_bit (T : BitVec 64) (j : Nat) : IntKind.u64.wrap (IntKind.u64.wrap (2 * ((T.toNat / 2 ^ (j + 1) : Nat) : Int)) + (((T.getLsbD j).toNat : Nat) : Int)) = ((T.toNat / 2 ^ j : Nat) : Int) := by
  rw [← bit_of]
  have e := acc T.toNat j
  have l := T.isLt
  have l1 : T.toNat / 2 ^ j ≤ T.toNat := Nat.div_le_self _ _
  rw [wrapu_in (n := 2 * _) (by omega) (by omega), wrapu_in (by omega) (by omega)]
  omega
theorem ref_may_yes {f n : Int} (h0 : 0 ≤ f) (h1 : 0 ≤ n) (h2 : f + n ≤ 64) : caponierref01_May.f f n = some true := by
  unfold caponierref01_May.f
  rw [if_pos h0, if_pos (by omega), if_pos h1, if_pos (by omega), wrap_in (by omega) (by omega), decide_eq_true (by omega)]
theorem ref_may_no {f n : Int} (h : ¬ (0 ≤ f ∧ 0 ≤ n ∧ f + n ≤ 64)) : caponierref01_May.f f n = some false := by
  unfold caponierref01_May.f
  by_cases h0 : f ≥ 0
  · rw [if_pos h0]
    by_cases h1 : f ≤ 64
    · rw [if_pos h1]
      by_cases h2 : n ≥ 0
      · rw [if_pos h2]
        by_cases h3 : n ≤ 64
        · rw [if_pos h3, wrap_in (by omega) (by omega), decide_eq_false (by omega)]
        · rw [if_neg h3]
      · rw [if_neg h2]
    · rw [if_neg h1]
  · rw [if_neg h0]
theorem ref_field_l (v : BitVec 64) (f n : Int) (h0 : 0 ≤ f) (h1 : 0 ≤ n) (h2 : f + n ≤ 64) (j : Nat) : (j : Int) ≤ n → ∀ k, j < k → caponierref01_Field.l0 k (U v) f (((fld v f.toNat n.toNat).toNat / 2 ^ j : Nat) : Int) (f + j - 1) = some (U (fld v f.toNat n.toNat), true) := by
  induction j with
  | zero =>
    intro _ k hk
    obtain ⟨k, rfl⟩ : ∃ m, k = m + 1 := ⟨k - 1, by omega⟩
    simp only [caponierref01_Field.l0]
    rw [if_neg (by omega)]
    simp only [Nat.pow_zero, Nat.div_one]
    rfl
  | succ j ih =>
    intro hj k hk
    obtain ⟨k, rfl⟩ : ∃ m, k = m + 1 := ⟨k - 1, by omega⟩
    have e0 : f + ((j + 1 : Nat) : Int) - 1 = f + (j : Int) := by omega
    simp only [caponierref01_Field.l0]
    rw [e0, if_pos (by omega), bit_is v (by omega) (by omega)]
    simp only [Option.bind_some]
    have ih' := ih (by omega) k (by omega)
    rw [wrap_in (n := f + (j : Int) - 1) (by omega) (by omega)]
    have st := step_bit (fld v f.toNat n.toNat) j
    rw [bit_fld v _ _ (by omega), decide_eq_true (by omega), Bool.true_and, show f.toNat + j = (f + (j : Int)).toNat by omega] at st
    rw [st]; exact ih'
theorem ref_field_yes (v : BitVec 64) {f n : Int} (h0 : 0 ≤ f) (h1 : 0 ≤ n) (h2 : f + n ≤ 64) {k : Nat} (hk : 67 ≤ k) : caponierref01_Field.f k (U v) f n = some (U (fld v f.toNat n.toNat), true) := by
  unfold caponierref01_Field.f
  rw [ref_may_yes h0 h1 h2]
  simp only [Option.bind_some, if_true]
  rw [wrap_in (n := f + n) (by omega) (by omega), wrap_in (by omega) (by omega)]
  have g := ref_field_l v f n h0 h1 h2 n.toNat (by omega) k (by omega)
  rw [Nat.div_eq_of_lt (by rw [fld_toNat _ _ _ (by omega)]; exact Nat.mod_lt _ (Nat.pow_pos (by decide))), Int.toNat_of_nonneg h1] at g
  exact g
theorem ref_field_no (a : Int) {f n : Int} (h : ¬ (0 ≤ f ∧ 0 ≤ n ∧ f + n ≤ 64)) {k : Nat} : caponierref01_Field.f k a f n = some (0, false) := by
  unfold caponierref01_Field.f
  rw [ref_may_no h]; rfl
theorem ref_put_l (v x : BitVec 64) (f n : Int) (h0 : 0 ≤ f) (h1 : 0 ≤ n) (h2 : f + n ≤ 64) (j : Nat) : j ≤ 64 → ∀ k, j < k → caponierref01_Put.l0 k (U v) f n (U x) (((pt v f.toNat n.toNat x).toNat / 2 ^ j : Nat) : Int) ((j : Int) - 1) = some (U (pt v f.toNat n.toNat x), true) := by
  induction j with
  | zero =>
    intro _ k hk
    obtain ⟨k, rfl⟩ : ∃ m, k = m + 1 := ⟨k - 1, by omega⟩
    simp only [caponierref01_Put.l0]
    rw [if_neg (by omega)]
    simp only [Nat.pow_zero, Nat.div_one]
    rfl
  | succ j ih =>
    intro hj k hk
    obtain ⟨k, rfl⟩ : ∃ m, k = m + 1 := ⟨k - 1, by omega⟩
    have e0 : ((j + 1 : Nat) : Int) - 1 = (j : Int) := by omega
    simp only [caponierref01_Put.l0]
    rw [e0, if_pos (by omega), bit_is v (by omega) (by omega)]
    simp only [Option.bind_some, Int.toNat_natCast]
    have ih' := ih (by omega) k (by omega)
    rw [wrap_in (n := (j : Int) - 1) (by omega) (by omega), wrap_in (n := f + n) (by omega) (by omega)]
    have st := step_bit (pt v f.toNat n.toNat x) j
    have bs := bit_pt v f.toNat n.toNat x (by omega) j (by omega)
    by_cases hge : (j : Int) ≥ f
    · rw [if_pos hge]
      by_cases hlt : (j : Int) < f + n
      · rw [if_pos hlt, wrap_in (n := (j : Int) - f) (by omega) (by omega), bit_is x (by omega) (by omega)]
        simp only [Option.bind_some]
        rw [if_pos (by omega), show j - f.toNat = ((j : Int) - f).toNat by omega] at bs
        rw [bs] at st
        rw [st]; exact ih'
      · rw [if_neg hlt]
        rw [if_neg (by omega)] at bs
        rw [bs] at st
        rw [st]; exact ih'
    · rw [if_neg hge]
      rw [if_neg (by omega)] at bs
      rw [bs] at st
      rw [st]; exact ih'
theorem ref_put_yes (v x : BitVec 64) {f n : Int} (h0 : 0 ≤ f) (h1 : 0 ≤ n) (h2 : f + n ≤ 64) {k : Nat} (hk : 67 ≤ k) : caponierref01_Put.f k (U v) f n (U x) = some (U (pt v f.toNat n.toNat x), true) := by
  unfold caponierref01_Put.f
  rw [ref_may_yes h0 h1 h2]
  simp only [Option.bind_some, if_true]
  have g := ref_put_l v x f n h0 h1 h2 64 (by omega) k (by omega)
  rw [Nat.div_eq_of_lt (pt v f.toNat n.toNat x).isLt] at g
  exact g
theorem ref_put_no (a b : Int) {f n : Int} (h : ¬ (0 ≤ f ∧ 0 ≤ n ∧ f + n ≤ 64)) {k : Nat} : caponierref01_Put.f k a f n b = some (0, false) := by
  unfold caponierref01_Put.f
  rw [ref_may_no h]; rfl

end Go.Proofs.Ytldpmehcpiamlaa.LBitsParts
