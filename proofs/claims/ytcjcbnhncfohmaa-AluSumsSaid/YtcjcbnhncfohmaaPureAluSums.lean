/- AluSums, over words of 64 bits: what the printed functions of package alu come to, and the law's plain statement. -/
import Derived.Test.YtcjcbnhncfohmaaQAluSumsx1
set_option linter.unusedVariables false
set_option linter.unusedSimpArgs false
namespace Go.Proofs.Ytcjcbnhncfohmaa.Pure
open Go.RowKit Go.Proofs.Ytcjcbnhncfohmaa.QAluSums Go.Proofs.YtcjcbnhncfohmaaW.PrintWords Go.Proofs.YtcjcbnhncfohmaaW.PrintLast Go.Proofs.Ytcjcbnhncfohmaa.Bv Go.Proofs.Ytcjcbnhncfohmaa.Hand

theorem two_is (c : Nat) (h : c ≤ 15) (x y : BitVec 64) : alu_Two.f (c : Int) (U x) (U y) = some (U (twoW c x y), true) := by
  unfold alu_Two.f twoF
  have hx := U_nonneg x
  have hx1 := U_lt x
  have hy := U_nonneg y
  have hy1 := U_lt y
  rw [if_pos ⟨hx, hx1, hy, hy1⟩, if_pos (by omega), ofU, ofU]; rfl
theorem two_not (op : Int) (h : ¬ (0 ≤ op ∧ op ≤ 15)) (x y : BitVec 64) : alu_Two.f op (U x) (U y) = some (0, false) := by
  unfold alu_Two.f twoF
  have hx := U_nonneg x
  have hx1 := U_lt x
  have hy := U_nonneg y
  have hy1 := U_lt y
  rw [if_pos ⟨hx, hx1, hy, hy1⟩, if_neg h]
theorem awake_is : caponierlaw03_awake.f = some true := by decide +kernel
theorem addW (x y : BitVec 64) : IntKind.u64.wrap (U x + U y) = U (x + y) := addU x y
theorem wrap_neg (x : BitVec 64) : IntKind.u64.wrap (-(U x)) = U (-x) := by rw [wrapU, BitVec.ofInt_neg, ofU]
theorem S_U (x : BitVec 64) : S x = if U x < 9223372036854775808 then U x else U x - 18446744073709551616 := by
  unfold S U
  rw [BitVec.toInt_eq_toNat_cond]
  split <;> split <;> omega

theorem AluSums : caponierlaw03_AluSums.Pure := by
  intro a0 a1 h0 h1
  obtain ⟨x, rfl⟩ := ex_U h0
  obtain ⟨y, rfl⟩ := ex_U h1
  clear h0 h1
  unfold caponierlaw03_AluSums.f
  have hx0 := U_nonneg x
  have hy0 := U_nonneg y
  rw [awake_is, Option.bind_some, if_pos rfl]
  obtain ⟨p, hp, hp2⟩ : ∃ p, Int.tmod (U x) 4294967296 = U p ∧ U p < 4294967296 := by
    refine ⟨BitVec.ofInt 64 (Int.tmod (U x) 4294967296), ?_⟩
    rw [Int.tmod_eq_emod_of_nonneg hx0, U_of (by omega) (by omega)]
    exact ⟨rfl, by omega⟩
  obtain ⟨q, hq, hq2⟩ : ∃ q, Int.tmod (U y) 4294967296 = U q ∧ U q < 4294967296 := by
    refine ⟨BitVec.ofInt 64 (Int.tmod (U y) 4294967296), ?_⟩
    rw [Int.tmod_eq_emod_of_nonneg hy0, U_of (by omega) (by omega)]
    exact ⟨rfl, by omega⟩
  rw [hp, hq]
  have t0 : alu_Two.f 0 (U x) (U y) = some (U (x + y), true) := two_is 0 (by decide) x y
  have t1 : alu_Two.f 1 (U (x + y)) (U y) = some (U (x + y - y), true) := two_is 1 (by decide) _ y
  have t2 : alu_Two.f 0 (U y) (U x) = some (U (y + x), true) := two_is 0 (by decide) y x
  have t4 : alu_Two.f 4 (U (x + y)) (U x) = some (U (one (decide (U (x + y) < U x))), true) := two_is 4 (by decide) _ x
  have t11 : alu_Two.f 11 (U p) (U q) = some (U (BitVec.ofNat 64 (p.toNat * q.toNat / 18446744073709551616)), true) := two_is 11 (by decide) p q
  have t10 : alu_Two.f 10 (U p) (U q) = some (U (p * q), true) := two_is 10 (by decide) p q
  rw [t0, Option.bind_some]
  dsimp only
  rw [t1, Option.bind_some, t2, Option.bind_some, t4, Option.bind_some, t11, Option.bind_some, t10, Option.bind_some]
  dsimp only
  have e0 : p.toNat * q.toNat / 18446744073709551616 = 0 := by
    have hpn : p.toNat < 4294967296 := by unfold U at hp2; omega
    have hqn : q.toNat < 4294967296 := by unfold U at hq2; omega
    have : p.toNat * q.toNat ≤ 4294967295 * 4294967295 := Nat.mul_le_mul (by omega) (by omega)
    exact Nat.div_eq_of_lt (by omega)
  rw [e0, BitVec.add_sub_cancel, BitVec.add_comm y x, mulU]
  by_cases h : U (x + y) < U x
  · rw [if_pos h, decide_eq_true h]
    rw [if_pos rfl, if_pos rfl, if_pos (by decide), if_pos (by decide)]
    simp
  · rw [if_neg h, decide_eq_false h]
    rw [if_pos rfl, if_pos rfl, if_pos (by decide), if_pos (by decide)]
    simp

end Go.Proofs.Ytcjcbnhncfohmaa.Pure
