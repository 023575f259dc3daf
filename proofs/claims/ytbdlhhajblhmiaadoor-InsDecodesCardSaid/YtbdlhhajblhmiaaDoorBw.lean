/- Fields of words, words with another field, and words signed by some bits: plain laws over bit vectors of 64 bits, no program in sight. -/
import Derived.Test.YtbdlhhajblhmiaaDoorBv
set_option linter.unusedVariables false
set_option linter.unusedSimpArgs false
namespace Go.Proofs.YtbdlhhajblhmiaaDoor.Bw
open Go.RowKit Go.Proofs.YtbdlhhajblhmiaaDoor.Bv

def msk (n : Nat) : BitVec 64 := 1#64 <<< n - 1#64
def fld (v : BitVec 64) (f n : Nat) : BitVec 64 := (v >>> f) &&& msk n
def pt (v : BitVec 64) (f n : Nat) (x : BitVec 64) : BitVec 64 := (v &&& ~~~(msk n <<< f)) ||| ((x &&& msk n) <<< f)
def sg (v : BitVec 64) (n : Nat) : BitVec 64 := (v <<< (64 - n)).sshiftRight (64 - n)

theorem msk_toNat (n : Nat) (h : n ≤ 64) : (msk n).toNat = 2 ^ n - 1 := by
  unfold msk
  rw [BitVec.toNat_sub, BitVec.toNat_shiftLeft, Nat.shiftLeft_eq]
  by_cases e : n = 64
  · subst e; decide
  · have h1 : 2 ^ n < 2 ^ 64 := Nat.pow_lt_pow_right (by decide) (by omega)
    have h2 : 0 < 2 ^ n := Nat.pow_pos (by decide)
    have e1 : (1#64).toNat = 1 := rfl
    rw [e1, Nat.one_mul, Nat.mod_eq_of_lt h1]
    rw [show 2 ^ 64 - 1 + 2 ^ n = (2 ^ n - 1) + 2 ^ 64 by omega, Nat.add_mod_right, Nat.mod_eq_of_lt (by omega)]
theorem bit_msk (n : Nat) (h : n ≤ 64) (i : Nat) : (msk n).getLsbD i = decide (i < n) := by
  show (msk n).toNat.testBit i = _
  rw [msk_toNat n h, Nat.testBit_two_pow_sub_one]
theorem bit_fld (v : BitVec 64) (f n : Nat) (h : n ≤ 64) (i : Nat) : (fld v f n).getLsbD i = (decide (i < n) && v.getLsbD (f + i)) := by
  unfold fld
  rw [BitVec.getLsbD_and, bit_msk n h, BitVec.getLsbD_ushiftRight, Bool.and_comm]
theorem bit_pt (v : BitVec 64) (f n : Nat) (x : BitVec 64) (h : f + n ≤ 64) (i : Nat) (hi : i < 64) : (pt v f n x).getLsbD i = if f ≤ i ∧ i < f + n then x.getLsbD (i - f) else v.getLsbD i := by
  unfold pt
  rw [BitVec.getLsbD_or, BitVec.getLsbD_and, BitVec.getLsbD_not, BitVec.getLsbD_shiftLeft, BitVec.getLsbD_shiftLeft, BitVec.getLsbD_and, bit_msk n (by omega)]
  by_cases h1 : i < f
  · rw [if_neg (by omega)]; simp [h1, hi]
  · by_cases h2 : i < f + n
    · have h3 : i - f < n := by omega
      rw [if_pos ⟨by omega, h2⟩]; simp [h1, hi, h3]
    · have h3 : ¬ (i - f < n) := by omega
      rw [if_neg (by omega)]; simp [h1, hi, h3]
theorem bit_sg (v : BitVec 64) (n : Nat) (h1 : 1 ≤ n) (h2 : n ≤ 64) (i : Nat) (hi : i < 64) : (sg v n).getLsbD i = if i < n then v.getLsbD i else v.getLsbD (n - 1) := by
  unfold sg
  rw [BitVec.getLsbD_sshiftRight]
  by_cases h : i < n
  · have e1 : ¬ (64 ≤ i) := by omega
    have e2 : 64 - n + i < 64 := by omega
    have e3 : ¬ (64 - n + i < 64 - n) := by omega
    have e4 : 64 - n + i - (64 - n) = i := by omega
    rw [if_pos h]; simp [e1, e2, e3, e4]
    exact (BitVec.getLsbD_eq_getElem hi).symm
  · have e1 : ¬ (64 ≤ i) := by omega
    have e2 : ¬ (64 - n + i < 64) := by omega
    have e3 : ¬ (63 < 64 - n) := by omega
    have e4 : 63 - (64 - n) = n - 1 := by omega
    rw [if_neg h]; simp [e1, e2, BitVec.msb_eq_getLsbD_last, e3, e4]
    exact (BitVec.getLsbD_eq_getElem (by omega)).symm

/-- Two words with the same bits are the same. -/
theorem ext64 {x y : BitVec 64} (h : ∀ i, i < 64 → x.getLsbD i = y.getLsbD i) : x = y := BitVec.eq_of_getLsbD_eq (fun i hi => h i hi)

theorem fld_pt (v : BitVec 64) (f n : Nat) (x : BitVec 64) (h : f + n ≤ 64) : fld (pt v f n x) f n = fld x 0 n := by
  refine ext64 fun i hi => ?_
  rw [bit_fld _ _ _ (by omega), bit_fld _ _ _ (by omega)]
  by_cases hn : i < n
  · rw [bit_pt _ _ _ _ h _ (by omega), if_pos (by omega)]; simp
  · simp [hn]
theorem pt_fld (v : BitVec 64) (f n : Nat) (x : BitVec 64) (h : f + n ≤ 64) : pt (pt v f n x) f n (fld v f n) = v := by
  refine ext64 fun i hi => ?_
  rw [bit_pt _ _ _ _ h _ hi]
  by_cases hn : f ≤ i ∧ i < f + n
  · rw [if_pos hn, bit_fld _ _ _ (by omega)]
    have e1 : i - f < n := by omega
    have e2 : f + (i - f) = i := by omega
    simp [e1, e2]
  · rw [if_neg hn, bit_pt _ _ _ _ h _ hi, if_neg hn]
theorem halves (v : BitVec 64) (k : Nat) (h : k ≤ 64) : pt (fld v 0 k) k (64 - k) (fld v k (64 - k)) = v := by
  refine ext64 fun i hi => ?_
  rw [bit_pt _ _ _ _ (by omega) _ hi]
  by_cases hn : k ≤ i ∧ i < k + (64 - k)
  · rw [if_pos hn, bit_fld _ _ _ (by omega)]
    have e1 : i - k < 64 - k := by omega
    have e2 : k + (i - k) = i := by omega
    simp [e1, e2]
  · have : i < k := by omega
    rw [if_neg hn, bit_fld _ _ _ (by omega)]; simp [this]
theorem fld_fld (v : BitVec 64) (k n m : Nat) (h : n ≤ 64) (hm : m ≤ n) : fld (fld v k n) 0 m = fld v k m := by
  refine ext64 fun i hi => ?_
  rw [bit_fld _ _ _ (by omega), bit_fld _ _ _ (by omega), bit_fld _ _ _ (by omega)]
  by_cases h1 : i < m
  · have : i < n := by omega
    simp [h1, this]
  · simp [h1]
theorem sg_sg (v : BitVec 64) (n : Nat) (h1 : 1 ≤ n) (h2 : n ≤ 64) : sg (sg v n) n = sg v n := by
  refine ext64 fun i hi => ?_
  rw [bit_sg _ _ h1 h2 _ hi, bit_sg _ _ h1 h2 _ hi, bit_sg _ _ h1 h2 _ (by omega)]
  by_cases h : i < n
  · simp [h, bit_sg _ _ h1 h2 _ hi]
  · have : n - 1 < n := by omega
    simp [h, this]
theorem sg_pt (w v : BitVec 64) (n : Nat) (h1 : 1 ≤ n) (h2 : n ≤ 64) : sg (pt w 0 n v) n = sg v n := by
  refine ext64 fun i hi => ?_
  rw [bit_sg _ _ h1 h2 _ hi, bit_sg _ _ h1 h2 _ hi, bit_pt _ _ _ _ (by omega) _ hi, bit_pt _ _ _ _ (by omega) _ (by omega)]
  by_cases h : i < n
  · simp [h]
  · have : n - 1 < n := by omega
    simp [h, this]
theorem pt_high (w v : BitVec 64) (n : Nat) (h2 : n ≤ 64) : (pt w 0 n v) >>> n = w >>> n := by
  refine ext64 fun i hi => ?_
  rw [BitVec.getLsbD_ushiftRight, BitVec.getLsbD_ushiftRight]
  by_cases h : n + i < 64
  · rw [bit_pt _ _ _ _ (by omega) _ h, if_neg (by omega)]
  · rw [BitVec.getLsbD_of_ge _ _ (by omega), BitVec.getLsbD_of_ge _ _ (by omega)]
theorem pt_swap (v x y : BitVec 64) (f n g m : Nat) (h : f + n ≤ 64) (h' : g + m ≤ 64) (ha : f + n ≤ g ∨ g + m ≤ f) : pt (pt v f n x) g m y = pt (pt v g m y) f n x := by
  refine ext64 fun i hi => ?_
  rw [bit_pt _ _ _ _ h' _ hi, bit_pt _ _ _ _ h _ hi, bit_pt _ _ _ _ h _ hi, bit_pt _ _ _ _ h' _ hi]
  by_cases h1 : g ≤ i ∧ i < g + m
  · rw [if_pos h1, if_neg (by omega), if_pos h1]
  · rw [if_neg h1, if_neg h1]
theorem pt_again (v x y : BitVec 64) (f n : Nat) (h : f + n ≤ 64) : pt (pt v f n x) f n y = pt v f n y := by
  refine ext64 fun i hi => ?_
  rw [bit_pt _ _ _ _ h _ hi, bit_pt _ _ _ _ h _ hi, bit_pt _ _ _ _ h _ hi]
  by_cases h1 : f ≤ i ∧ i < f + n
  · rw [if_pos h1, if_pos h1]
  · rw [if_neg h1, if_neg h1, if_neg h1]
theorem pt_all (v x : BitVec 64) : pt v 0 64 x = x := by
  refine ext64 fun i hi => ?_
  rw [bit_pt _ _ _ _ (by omega) _ hi, if_pos (by omega)]; simp
theorem fld_toNat (v : BitVec 64) (f n : Nat) (h : n ≤ 64) : (fld v f n).toNat = v.toNat / 2 ^ f % 2 ^ n := by
  unfold fld
  rw [BitVec.toNat_and, msk_toNat n h, Nat.and_two_pow_sub_one_eq_mod, BitVec.toNat_ushiftRight, Nat.shiftRight_eq_div_pow]
theorem sg_ext (v : BitVec 64) (n : Nat) (h1 : 1 ≤ n) (h2 : n ≤ 64) : sg v n = (v.setWidth n).signExtend 64 := by
  refine ext64 fun i hi => ?_
  rw [bit_sg _ _ h1 h2 _ hi, BitVec.getLsbD_signExtend, BitVec.msb_setWidth]
  by_cases h : i < n
  · simp [h, hi]
  · have : 0 < n := by omega
    have e : n - 1 < n := by omega
    simp [h, hi, this]
theorem sg_toInt (v : BitVec 64) (n : Nat) (h1 : 1 ≤ n) (h2 : n ≤ 64) : (sg v n).toInt = (v.toNat : Int).bmod (2 ^ n) := by
  rw [sg_ext v n h1 h2, BitVec.toInt_signExtend_of_le h2, BitVec.toInt_setWidth]
theorem mask_zero (v : BitVec 64) (n : Nat) (h : n ≤ 64) : v &&& ~~~msk n = 0#64 ↔ v.toNat < 2 ^ n := by
  constructor
  · intro e
    have : v = fld v 0 n := by
      refine ext64 fun i hi => ?_
      rw [bit_fld _ _ _ h]
      have g := congrArg (fun b : BitVec 64 => b.getLsbD i) e
      simp only [BitVec.getLsbD_and, BitVec.getLsbD_not, bit_msk n h, BitVec.getLsbD_zero] at g
      by_cases hn : i < n
      · simp [hn]
      · have g' : v.getLsbD i = false := by simpa [hn, hi] using g
        rw [g', decide_eq_false hn]; rfl
    rw [this, fld_toNat _ _ _ h]
    exact Nat.mod_lt _ (Nat.pow_pos (by decide))
  · intro hl
    refine ext64 fun i hi => ?_
    simp only [BitVec.getLsbD_and, BitVec.getLsbD_not, bit_msk n h, BitVec.getLsbD_zero]
    by_cases hn : i < n
    · simp [hn]
    · have : v.getLsbD i = false := by
        show v.toNat.testBit i = false
        exact Nat.testBit_lt_two_pow (Nat.lt_of_lt_of_le hl (Nat.pow_le_pow_right (by decide) (by omega)))
      simp [this]
/-- One more bit of a number, from above. -/
theorem acc (T j : Nat) : 2 * (T / 2 ^ (j + 1)) + T / 2 ^ j % 2 = T / 2 ^ j := by
  rw [Nat.pow_succ, ← Nat.div_div_eq_div_mul]; omega
theorem bit_of (v : BitVec 64) (j : Nat) : v.toNat / 2 ^ j % 2 = (v.getLsbD j).toNat := by
  show _ = (v.toNat.testBit j).toNat
  rw [Nat.toNat_testBit]
end Go.Proofs.YtbdlhhajblhmiaaDoor.Bw
