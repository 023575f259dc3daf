/- AluMul, over words of 64 bits: what the printed functions of package alu come to, and the law's plain statement. -/
import Derived.Test.YtcjcbnhncfohmaaQAluMulx1
set_option linter.unusedVariables false
set_option linter.unusedSimpArgs false
namespace Go.Proofs.Ytcjcbnhncfohmaa.Pure
open Go.RowKit Go.Proofs.Ytcjcbnhncfohmaa.QAluMul Go.Proofs.YtcjcbnhncfohmaaW.PrintWords Go.Proofs.YtcjcbnhncfohmaaW.PrintLast Go.Proofs.Ytcjcbnhncfohmaa.Bv Go.Proofs.Ytcjcbnhncfohmaa.Hand

theorem two_is (c : Nat) (h : c ≤ 15) (x y : BitVec 64) : alu_Two.f (c : Int) (U x) (U y) = some (U (twoW c x y), true) := by
  unfold alu_Two.f twoF
  have hx := U_nonneg x
  have hx1 := U_lt x
  have hy := U_nonneg y
  have hy1 := U_lt y
  rw [if_pos ⟨hx, hx1, hy, hy1⟩, if_pos (by omega), ofU, ofU]; rfl
theorem two_not (op : Int) (h : ¬ (0 ≤ op ∧ op ≤ 15)) (x y : BitVec 64) : alu_Two.f op (U x) (U y) = some (0, false) := by
  unfold alu_Two.f twoF
  have hx := U_nonneg x
  have hx1 := U_lt x
  have hy := U_nonneg y
  have hy1 := U_lt y
  rw [if_pos ⟨hx, hx1, hy, hy1⟩, if_neg h]
theorem awake_is : caponierlaw03_awake.f = some true := by decide +kernel
theorem addW (x y : BitVec 64) : IntKind.u64.wrap (U x + U y) = U (x + y) := addU x y
theorem wrap_neg (x : BitVec 64) : IntKind.u64.wrap (-(U x)) = U (-x) := by rw [wrapU, BitVec.ofInt_neg, ofU]
theorem S_U (x : BitVec 64) : S x = if U x < 9223372036854775808 then U x else U x - 18446744073709551616 := by
  unfold S U
  rw [BitVec.toInt_eq_toNat_cond]
  split <;> split <;> omega

theorem AluMul : caponierlaw03_AluMul.Pure := by
  intro a0 a1 a2 h0 h1 h2
  obtain ⟨x, rfl⟩ := ex_U h0
  obtain ⟨y, rfl⟩ := ex_U h1
  obtain ⟨z, rfl⟩ := ex_U h2
  clear h0 h1 h2
  have hz0 := U_nonneg z
  unfold caponierlaw03_AluMul.f
  rw [awake_is, Option.bind_some, if_pos rfl]
  obtain ⟨n, hn, hn1, hn2⟩ : ∃ n : Nat, IntKind.u64.wrap (1 + Int.tmod (U z) 63) = (n : Int) ∧ 1 ≤ n ∧ n ≤ 63 := by
    refine ⟨(1 + U z % 63).toNat, ?_⟩
    rw [Int.tmod_eq_emod_of_nonneg hz0, wrapu_in (by omega) (by omega)]
    omega
  rw [hn, addU]
  have t10 : ∀ x y, alu_Two.f 10 (U x) (U y) = some (U (x * y), true) := fun x y => two_is 10 (by decide) x y
  have t11 : ∀ x y, alu_Two.f 11 (U x) (U y) = some (U (BitVec.ofNat 64 (x.toNat * y.toNat / 18446744073709551616)), true) := fun x y => two_is 11 (by decide) x y
  have t6 : ∀ x y, alu_Two.f 6 (U x) (U y) = some (U (x >>> (y.toNat % 64)), true) := fun x y => two_is 6 (by decide) x y
  have es : shl .u64 1 (n : Int) = U (1#64 <<< n) := by
    have := shl_U 1#64 (n : Int)
    rw [show U 1#64 = 1 from rfl, Int.toNat_natCast] at this
    exact this
  have ek : IntKind.u64.wrap (64 - (n : Int)) = U (BitVec.ofNat 64 (64 - n)) := by
    rw [wrapu_in (by omega) (by omega)]
    unfold U
    rw [BitVec.toNat_ofNat, Nat.mod_eq_of_lt (by omega)]; omega
  have e0 : (0 : Int) ≤ (n : Int) := by omega
  rw [es, ek]
  rw [t10, Option.bind_some, t10, Option.bind_some, t10, Option.bind_some, t10, Option.bind_some, t11, Option.bind_some, t11, Option.bind_some, if_pos e0, t11, Option.bind_some, t6, Option.bind_some]
  dsimp only
  have en : (1#64 <<< n).toNat = 2 ^ n := by
    rw [BitVec.toNat_shiftLeft, Nat.shiftLeft_eq, show (1#64).toNat = 1 from rfl, Nat.one_mul, Nat.mod_eq_of_lt]
    exact Nat.pow_lt_pow_right (by decide) (by omega)
  have el : BitVec.ofNat 64 (x.toNat * (1#64 <<< n).toNat / 18446744073709551616) = x >>> ((BitVec.ofNat 64 (64 - n)).toNat % 64) := by
    apply BitVec.eq_of_toNat_eq
    rw [en, BitVec.toNat_ushiftRight, BitVec.toNat_ofNat, BitVec.toNat_ofNat, Nat.mod_eq_of_lt (a := 64 - n) (by omega), Nat.mod_eq_of_lt (a := 64 - n) (b := 64) (by omega), Nat.shiftRight_eq_div_pow]
    have e64 : (18446744073709551616 : Nat) = 2 ^ (64 - n) * 2 ^ n := by rw [← Nat.pow_add, show 64 - n + n = 64 by omega]
    rw [e64, Nat.mul_div_mul_right _ _ (Nat.pow_pos (by decide))]
    exact Nat.mod_eq_of_lt (Nat.lt_of_le_of_lt (Nat.div_le_self _ _) x.isLt)
  rw [BitVec.mul_comm y x, if_pos rfl, BitVec.mul_add, addU, if_pos rfl, Nat.mul_comm y.toNat, if_pos rfl, el]
  simp

end Go.Proofs.Ytcjcbnhncfohmaa.Pure
