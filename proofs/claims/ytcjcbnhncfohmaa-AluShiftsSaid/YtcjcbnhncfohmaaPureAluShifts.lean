/- AluShifts, over words of 64 bits: what the printed functions of package alu come to, and the law's plain statement. -/
import Derived.Test.YtcjcbnhncfohmaaQAluShiftsx1
set_option linter.unusedVariables false
set_option linter.unusedSimpArgs false
namespace Go.Proofs.Ytcjcbnhncfohmaa.Pure
open Go.RowKit Go.Proofs.Ytcjcbnhncfohmaa.QAluShifts Go.Proofs.YtcjcbnhncfohmaaW.PrintWords Go.Proofs.YtcjcbnhncfohmaaW.PrintLast Go.Proofs.Ytcjcbnhncfohmaa.Bv Go.Proofs.Ytcjcbnhncfohmaa.Hand

theorem two_is (c : Nat) (h : c ≤ 15) (x y : BitVec 64) : alu_Two.f (c : Int) (U x) (U y) = some (U (twoW c x y), true) := by
  unfold alu_Two.f twoF
  have hx := U_nonneg x
  have hx1 := U_lt x
  have hy := U_nonneg y
  have hy1 := U_lt y
  rw [if_pos ⟨hx, hx1, hy, hy1⟩, if_pos (by omega), ofU, ofU]; rfl
theorem two_not (op : Int) (h : ¬ (0 ≤ op ∧ op ≤ 15)) (x y : BitVec 64) : alu_Two.f op (U x) (U y) = some (0, false) := by
  unfold alu_Two.f twoF
  have hx := U_nonneg x
  have hx1 := U_lt x
  have hy := U_nonneg y
  have hy1 := U_lt y
  rw [if_pos ⟨hx, hx1, hy, hy1⟩, if_neg h]
theorem one_is (n : Nat) (h0 : 16 ≤ n) (h1 : n ≤ 24) (x y : BitVec 64) : alu_One.f (n : Int) (U x) (S y) = some (U (twoW (withN n).toNat x y), true) := by
  unfold alu_One.f oneF
  have hx := U_nonneg x
  have hx1 := U_lt x
  rw [if_pos ⟨hx, hx1, S_ge y, S_lt y, by omega, by omega⟩, if_pos ⟨by omega, by omega⟩, ofU, ofS]; rfl
theorem one_not (op : Int) (w0 : -9223372036854775808 ≤ op) (w1 : op < 9223372036854775808) (h : ¬ (16 ≤ op ∧ op ≤ 24)) (x y : BitVec 64) : alu_One.f op (U x) (S y) = some (0, false) := by
  unfold alu_One.f oneF
  have hx := U_nonneg x
  have hx1 := U_lt x
  rw [if_pos ⟨hx, hx1, S_ge y, S_lt y, w0, w1⟩, if_neg h]
theorem awake_is : caponierlaw03_awake.f = some true := by decide +kernel
theorem addW (x y : BitVec 64) : IntKind.u64.wrap (U x + U y) = U (x + y) := addU x y
theorem wrap_neg (x : BitVec 64) : IntKind.u64.wrap (-(U x)) = U (-x) := by rw [wrapU, BitVec.ofInt_neg, ofU]
theorem S_U (x : BitVec 64) : S x = if U x < 9223372036854775808 then U x else U x - 18446744073709551616 := by
  unfold S U
  rw [BitVec.toInt_eq_toNat_cond]
  split <;> split <;> omega

theorem up_down (x : BitVec 64) (k : Nat) (h : k ≤ 63) : ((x <<< k) >>> k).toNat = x.toNat % 2 ^ (64 - k) := by
  rw [BitVec.toNat_ushiftRight, BitVec.toNat_shiftLeft, Nat.shiftLeft_eq, Nat.shiftRight_eq_div_pow]
  have e64 : (2 ^ 64 : Nat) = 2 ^ (64 - k) * 2 ^ k := by rw [← Nat.pow_add, show 64 - k + k = 64 by omega]
  rw [e64, Nat.mul_mod_mul_right, Nat.mul_div_cancel _ (Nat.pow_pos (by decide))]
theorem AluShifts : caponierlaw03_AluShifts.Pure := by
  intro a0 a1 h0 h1
  obtain ⟨x, rfl⟩ := ex_U h0
  have b1 := wf_u8 h1
  clear h0 h1
  unfold caponierlaw03_AluShifts.f
  rw [awake_is, Option.bind_some, if_pos rfl]
  obtain ⟨k, hk, hk1⟩ : ∃ k : Nat, Int.tmod (IntKind.u64.wrap a1) 64 = (k : Int) ∧ k ≤ 63 := by
    refine ⟨(a1 % 64).toNat, ?_⟩
    rw [wrapu_in (by omega) (by omega), Int.tmod_eq_emod_of_nonneg (by omega)]
    omega
  rw [hk]
  have eK : (k : Int) = U (BitVec.ofNat 64 k) := by
    unfold U; rw [BitVec.toNat_ofNat, Nat.mod_eq_of_lt (by omega)]
  have nK : (BitVec.ofNat 64 k).toNat % 64 = k := by rw [BitVec.toNat_ofNat, Nat.mod_eq_of_lt (a := k) (by omega), Nat.mod_eq_of_lt (by omega)]
  have eM : IntKind.u64.wrap ((k : Int) + 64) = U (BitVec.ofNat 64 (k + 64)) := by
    rw [wrapu_in (by omega) (by omega)]
    unfold U; rw [BitVec.toNat_ofNat, Nat.mod_eq_of_lt (by omega)]; omega
  have nM : (BitVec.ofNat 64 (k + 64)).toNat % 64 = k := by rw [BitVec.toNat_ofNat, Nat.mod_eq_of_lt (a := k + 64) (by omega)]; omega
  have eS : wrap64 (k : Int) = S (BitVec.ofNat 64 k) := by rw [wrapS]; congr 1
  have t2 : alu_Two.f 2 (U x) (k : Int) = some (U (x <<< k), true) := by
    have := two_is 2 (by decide) x (BitVec.ofNat 64 k)
    rw [← eK] at this
    rw [show (2 : Int) = ((2 : Nat) : Int) from rfl, this]
    show some (U (x <<< ((BitVec.ofNat 64 k).toNat % 64)), true) = _
    rw [nK]
  have t6 : alu_Two.f 6 (U (x <<< k)) (k : Int) = some (U ((x <<< k) >>> k), true) := by
    have := two_is 6 (by decide) (x <<< k) (BitVec.ofNat 64 k)
    rw [← eK] at this
    rw [show (6 : Int) = ((6 : Nat) : Int) from rfl, this]
    show some (U ((x <<< k) >>> ((BitVec.ofNat 64 k).toNat % 64)), true) = _
    rw [nK]
  have t7 : alu_Two.f 7 (U x) (k : Int) = some (U (x.sshiftRight k), true) := by
    have := two_is 7 (by decide) x (BitVec.ofNat 64 k)
    rw [← eK] at this
    rw [show (7 : Int) = ((7 : Nat) : Int) from rfl, this]
    show some (U (x.sshiftRight ((BitVec.ofNat 64 k).toNat % 64)), true) = _
    rw [nK]
  have t7' : alu_Two.f 7 (U x) (U (BitVec.ofNat 64 (k + 64))) = some (U (x.sshiftRight k), true) := by
    have := two_is 7 (by decide) x (BitVec.ofNat 64 (k + 64))
    rw [show (7 : Int) = ((7 : Nat) : Int) from rfl, this]
    show some (U (x.sshiftRight ((BitVec.ofNat 64 (k + 64)).toNat % 64)), true) = _
    rw [nM]
  have o24 : alu_One.f 24 (U x) (S (BitVec.ofNat 64 k)) = some (U (x.sshiftRight k), true) := by
    have := one_is 24 (by decide) (by decide) x (BitVec.ofNat 64 k)
    rw [show (24 : Int) = ((24 : Nat) : Int) from rfl, this]
    show some (U (x.sshiftRight ((BitVec.ofNat 64 k).toNat % 64)), true) = _
    rw [nK]
  rw [eM, eS, t2, Option.bind_some]
  dsimp only
  rw [t6, Option.bind_some, t7, Option.bind_some, t7', Option.bind_some, o24, Option.bind_some]
  dsimp only
  rw [wrapSU, wrapSU]
  have es : shr .i64 (S x) (k : Int) = S (x.sshiftRight k) := by
    have := shr_S x (k : Int) (by omega)
    simpa using this
  have fin : (if (k : Int) > 62 then some true else some (decide (wrap64 (shr .i64 (S x) (k : Int) * shl .i64 1 (k : Int)) ≤ S x))) = some true := by
    by_cases h : (k : Int) > 62
    · rw [if_pos h]
    · rw [if_neg h]
      refine congrArg some ?_
      rw [decide_eq_true_iff]
      have hp : (0 : Int) < 2 ^ k := Int.pow_pos (by decide)
      have e1 : shr .i64 (S x) (k : Int) = S x / 2 ^ k := by
        unfold shr; rw [show (IntKind.i64.bits : Nat) = 64 from rfl, Int.toNat_natCast, Nat.min_eq_left (by omega)]
      have hle : (2 : Int) ^ k ≤ 4611686018427387904 := by
        have : 2 ^ k ≤ 2 ^ 62 := Nat.pow_le_pow_right (by decide) (by omega)
        have e : ((2 ^ k : Nat) : Int) = 2 ^ k := by simp
        omega
      have e2 : shl .i64 1 (k : Int) = 2 ^ k := by
        unfold shl
        rw [show (IntKind.i64.bits : Nat) = 64 from rfl, Int.toNat_natCast, Nat.min_eq_left (by omega), IntKind.wrap_i64]; omega
      have e63 : (9223372036854775808 : Int) = 2 ^ (63 - k) * 2 ^ k := by
        rw [← Int.pow_add, show 63 - k + k = 63 by omega]; rfl
      have g1 := S_ge x
      have g2 := S_lt x
      have d1 := Int.ediv_mul_le (S x) (show (2 : Int) ^ k ≠ 0 by omega)
      have d2 : -9223372036854775808 ≤ S x / 2 ^ k * 2 ^ k := by
        have h1 : -(2 : Int) ^ (63 - k) ≤ S x / 2 ^ k := by
          rw [Int.le_ediv_iff_mul_le hp, Int.neg_mul, ← e63]; exact g1
        have h2 := Int.mul_le_mul_of_nonneg_right h1 (Int.le_of_lt hp)
        rw [Int.neg_mul, ← e63] at h2
        exact h2
      rw [e1, e2, wrap_in d2 (by omega)]
      exact d1
  by_cases h0 : (k : Int) > 0
  · have e64 : IntKind.u64.wrap (64 - (k : Int)) = ((64 - k : Nat) : Int) := by rw [wrapu_in (by omega) (by omega)]; omega
    have e1 : shl .u64 1 ((64 - k : Nat) : Int) = ((2 ^ (64 - k) : Nat) : Int) := by
      have := shl_U 1#64 ((64 - k : Nat) : Int)
      rw [show U 1#64 = 1 from rfl] at this
      rw [this]
      unfold U
      rw [BitVec.toNat_shiftLeft, Nat.shiftLeft_eq, show (1#64).toNat = 1 from rfl, Nat.one_mul, Int.toNat_natCast, Nat.mod_eq_of_lt]
      exact Nat.pow_lt_pow_right (by decide) (by omega)
    have hp : (0 : Int) < ((2 ^ (64 - k) : Nat) : Int) := Int.natCast_pos.mpr (Nat.pow_pos (by decide))
    have el : U ((x <<< k) >>> k) = Int.tmod (U x) ((2 ^ (64 - k) : Nat) : Int) := by
      rw [Int.tmod_eq_emod_of_nonneg (U_nonneg x)]
      unfold U
      rw [up_down x k hk1, Int.natCast_emod]
    rw [if_pos h0, e64, if_pos (by omega), e1, if_neg (by omega), if_pos (by omega), if_pos el, if_pos es.symm, if_pos rfl, if_pos rfl]
    exact fin
  · have k0 : k = 0 := by omega
    rw [if_neg h0, if_pos (by omega), if_pos (by subst k0; simp), if_pos es.symm, if_pos rfl, if_pos rfl]
    exact fin

end Go.Proofs.Ytcjcbnhncfohmaa.Pure
