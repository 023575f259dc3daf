/- What the printed functions of the packages bits and caponierref01 come to, in words of 64 bits. -/
import Derived.Test.YtbdlhhajblhmiaaDoorQEncodex1
import Derived.Test.YtbdlhhajblhmiaaDoorBw
set_option linter.unusedVariables false
set_option linter.unusedSimpArgs false
namespace Go.Proofs.YtbdlhhajblhmiaaDoor.BL
open Go.RowKit Go.Proofs.YtbdlhhajblhmiaaDoor.QEncode Go.Proofs.YtbdlhhajblhmiaaDoorW.PrintWords Go.Proofs.YtbdlhhajblhmiaaDoorW.PrintLast Go.Proofs.YtbdlhhajblhmiaaDoor.Bv Go.Proofs.YtbdlhhajblhmiaaDoor.Bw

theorem may_yes {f n : Int} (h0 : 0 ≤ f) (h1 : 0 ≤ n) (h2 : f + n ≤ 64) : bits_may.f f n = some true := by
  unfold bits_may.f
  rw [if_pos h0, if_pos (by omega), if_pos h1, wrap_in (by omega) (by omega), decide_eq_true (by omega)]
theorem may_no {f n : Int} (h : ¬ (0 ≤ f ∧ 0 ≤ n ∧ f + n ≤ 64)) : bits_may.f f n = some false := by
  unfold bits_may.f
  by_cases h0 : f ≥ 0
  · rw [if_pos h0]
    by_cases h1 : f ≤ 64
    · rw [if_pos h1]
      by_cases h2 : n ≥ 0
      · rw [if_pos h2, wrap_in (by omega) (by omega), decide_eq_false (by omega)]
      · rw [if_neg h2]
    · rw [if_neg h1]
  · rw [if_neg h0]
theorem one_U : (1 : Int) = U 1#64 := rfl
theorem zero_U : (0 : Int) = U 0#64 := rfl
theorem mask_is {n : Int} (h : 0 ≤ n) : bits_mask.f n = some (U (msk n.toNat)) := by
  unfold bits_mask.f
  rw [if_pos h, one_U, shl_U, subU]; rfl
theorem field_yes (v : BitVec 64) {f n : Int} (h0 : 0 ≤ f) (h1 : 0 ≤ n) (h2 : f + n ≤ 64) : bits_Field.f (U v) f n = some (U (fld v f.toNat n.toNat), true) := by
  unfold bits_Field.f
  rw [may_yes h0 h1 h2]; simp only [Option.bind_some, if_true]; rw [if_pos h0, mask_is h1]; simp only [Option.bind_some]; rw [shr_U, and_U]; rfl
theorem field_no (a : Int) {f n : Int} (h : ¬ (0 ≤ f ∧ 0 ≤ n ∧ f + n ≤ 64)) : bits_Field.f a f n = some (0, false) := by
  unfold bits_Field.f
  rw [may_no h]; rfl
theorem put_yes (v x : BitVec 64) {f n : Int} (h0 : 0 ≤ f) (h1 : 0 ≤ n) (h2 : f + n ≤ 64) : bits_Put.f (U v) f n (U x) = some (U (pt v f.toNat n.toNat x), true) := by
  unfold bits_Put.f
  rw [may_yes h0 h1 h2]; simp only [Option.bind_some, if_true]; rw [mask_is h1]; simp only [Option.bind_some]; rw [if_pos h0, shl_U, and_U, shl_U, andNot_U, or_U]; rfl
theorem put_no (a b : Int) {f n : Int} (h : ¬ (0 ≤ f ∧ 0 ≤ n ∧ f + n ≤ 64)) : bits_Put.f a f n b = some (0, false) := by
  unfold bits_Put.f
  rw [may_no h]; rfl
theorem sign_yes (v : BitVec 64) {n : Int} (h1 : 1 ≤ n) (h2 : n ≤ 64) : bits_Sign.f (U v) n = some (S (sg v n.toNat)) := by
  unfold bits_Sign.f
  rw [if_neg (by omega), if_neg (by omega), wrap_in (n := 64 - n) (by omega) (by omega), if_pos (by omega), shl_U, wrapSU, shr_S _ _ (by omega)]
  unfold sg
  rw [show (64 - n).toNat = 64 - n.toNat by omega]
theorem sign_no (a : Int) {n : Int} (h : ¬ (1 ≤ n ∧ n ≤ 64)) : bits_Sign.f a n = some 0 := by
  unfold bits_Sign.f
  by_cases h1 : n < 1
  · rw [if_pos h1]
  · rw [if_neg h1, if_pos (by omega)]
theorem fits_yes (x : BitVec 64) {n : Int} (h1 : 1 ≤ n) (h2 : n ≤ 64) : bits_Fits.f (S x) n = some (decide (sg x n.toNat = x)) := by
  unfold bits_Fits.f
  rw [if_pos h1, if_pos h2, wrapUS, sign_yes x h1 h2]; simp only [Option.bind_some, S_beq]
theorem fits_no (a : Int) {n : Int} (h : ¬ (1 ≤ n ∧ n ≤ 64)) : bits_Fits.f a n = some false := by
  unfold bits_Fits.f
  by_cases h1 : n ≥ 1
  · rw [if_pos h1, if_neg (by omega)]
  · rw [if_neg h1]
theorem fitsU_yes (x : BitVec 64) {n : Int} (h1 : 1 ≤ n) (h2 : n ≤ 64) : bits_FitsU.f (U x) n = some (decide (x.toNat < 2 ^ n.toNat)) := by
  unfold bits_FitsU.f
  rw [if_pos h1, if_pos h2, mask_is (by omega)]
  simp only [Option.bind_some]
  rw [andNot_U, zero_U, U_beq, decide_eq_decide.mpr (mask_zero x n.toNat (by omega))]
theorem fitsU_no (a : Int) {n : Int} (h : ¬ (1 ≤ n ∧ n ≤ 64)) : bits_FitsU.f a n = some false := by
  unfold bits_FitsU.f
  by_cases h1 : n ≥ 1
  · rw [if_pos h1, if_neg (by omega)]
  · rw [if_neg h1]
end Go.Proofs.YtbdlhhajblhmiaaDoor.BL
