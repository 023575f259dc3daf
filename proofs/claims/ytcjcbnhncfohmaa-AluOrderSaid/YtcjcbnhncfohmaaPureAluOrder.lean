/- AluOrder, over words of 64 bits: what the printed functions of package alu come to, and the law's plain statement. -/
import Derived.Test.YtcjcbnhncfohmaaQAluOrderx1
set_option linter.unusedVariables false
set_option linter.unusedSimpArgs false
namespace Go.Proofs.Ytcjcbnhncfohmaa.Pure
open Go.RowKit Go.Proofs.Ytcjcbnhncfohmaa.QAluOrder Go.Proofs.YtcjcbnhncfohmaaW.PrintWords Go.Proofs.YtcjcbnhncfohmaaW.PrintLast Go.Proofs.Ytcjcbnhncfohmaa.Bv Go.Proofs.Ytcjcbnhncfohmaa.Hand

theorem two_is (c : Nat) (h : c ≤ 15) (x y : BitVec 64) : alu_Two.f (c : Int) (U x) (U y) = some (U (twoW c x y), true) := by
  unfold alu_Two.f twoF
  have hx := U_nonneg x
  have hx1 := U_lt x
  have hy := U_nonneg y
  have hy1 := U_lt y
  rw [if_pos ⟨hx, hx1, hy, hy1⟩, if_pos (by omega), ofU, ofU]; rfl
theorem two_not (op : Int) (h : ¬ (0 ≤ op ∧ op ≤ 15)) (x y : BitVec 64) : alu_Two.f op (U x) (U y) = some (0, false) := by
  unfold alu_Two.f twoF
  have hx := U_nonneg x
  have hx1 := U_lt x
  have hy := U_nonneg y
  have hy1 := U_lt y
  rw [if_pos ⟨hx, hx1, hy, hy1⟩, if_neg h]
theorem one_is (n : Nat) (h0 : 16 ≤ n) (h1 : n ≤ 24) (x y : BitVec 64) : alu_One.f (n : Int) (U x) (S y) = some (U (twoW (withN n).toNat x y), true) := by
  unfold alu_One.f oneF
  have hx := U_nonneg x
  have hx1 := U_lt x
  rw [if_pos ⟨hx, hx1, S_ge y, S_lt y, by omega, by omega⟩, if_pos ⟨by omega, by omega⟩, ofU, ofS]; rfl
theorem one_not (op : Int) (w0 : -9223372036854775808 ≤ op) (w1 : op < 9223372036854775808) (h : ¬ (16 ≤ op ∧ op ≤ 24)) (x y : BitVec 64) : alu_One.f op (U x) (S y) = some (0, false) := by
  unfold alu_One.f oneF
  have hx := U_nonneg x
  have hx1 := U_lt x
  rw [if_pos ⟨hx, hx1, S_ge y, S_lt y, w0, w1⟩, if_neg h]
theorem awake_is : caponierlaw03_awake.f = some true := by decide +kernel
theorem addW (x y : BitVec 64) : IntKind.u64.wrap (U x + U y) = U (x + y) := addU x y
theorem wrap_neg (x : BitVec 64) : IntKind.u64.wrap (-(U x)) = U (-x) := by rw [wrapU, BitVec.ofInt_neg, ofU]
theorem S_U (x : BitVec 64) : S x = if U x < 9223372036854775808 then U x else U x - 18446744073709551616 := by
  unfold S U
  rw [BitVec.toInt_eq_toNat_cond]
  split <;> split <;> omega

theorem taken_34 (a b : Int) : alu_Taken.f 34 a b = some (decide (wrap64 a < wrap64 b), true) := rfl
theorem taken_36 (a b : Int) : alu_Taken.f 36 a b = some (decide (a < b), true) := rfl
theorem one_beq (b : Bool) : (U (one b) == 1) = b := by cases b <;> decide
theorem one_le (b : Bool) : U (one b) ≤ 1 := by cases b <;> decide
theorem AluOrder : caponierlaw03_AluOrder.Pure := by
  intro a0 a1 a2 h0 h1 h2
  obtain ⟨x, rfl⟩ := ex_U h0
  obtain ⟨y, rfl⟩ := ex_U h1
  obtain ⟨z, hz⟩ : ∃ z, wrap64 a2 = S z := ⟨_, wrapS a2⟩
  unfold caponierlaw03_AluOrder.f
  rw [awake_is, Option.bind_some, if_pos rfl, hz, wrapUS]
  have t3 : alu_Two.f 3 (U x) (U y) = some (U (one (decide (S x < S y))), true) := two_is 3 (by decide) x y
  have t4 : alu_Two.f 4 (U x) (U y) = some (U (one (decide (U x < U y))), true) := two_is 4 (by decide) x y
  have o17 : alu_One.f 17 (U x) (S z) = some (U (one (decide (S x < S z))), true) := one_is 17 (by decide) (by decide) x z
  have o18 : alu_One.f 18 (U x) (S z) = some (U (one (decide (U x < U z))), true) := one_is 18 (by decide) (by decide) x z
  rw [t3, Option.bind_some, t4, Option.bind_some, taken_34, Option.bind_some, taken_36, Option.bind_some, o17, Option.bind_some, o18, Option.bind_some, taken_34, Option.bind_some, taken_36, Option.bind_some]
  dsimp only
  simp only [one_beq]
  rw [wrapSU, wrapSU, wrapSU]
  rw [if_pos (beq_self_eq_true _), if_pos (beq_self_eq_true _), if_pos (one_le _), if_pos (one_le _), if_pos (beq_self_eq_true _), beq_self_eq_true]

end Go.Proofs.Ytcjcbnhncfohmaa.Pure
