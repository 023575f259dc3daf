/- AluBits, over words of 64 bits: what the printed functions of package alu come to, and the law's plain statement. -/
import Derived.Test.YtcjcbnhncfohmaaQAluBitsx1
set_option linter.unusedVariables false
set_option linter.unusedSimpArgs false
namespace Go.Proofs.Ytcjcbnhncfohmaa.Pure
open Go.RowKit Go.Proofs.Ytcjcbnhncfohmaa.QAluBits Go.Proofs.YtcjcbnhncfohmaaW.PrintWords Go.Proofs.YtcjcbnhncfohmaaW.PrintLast Go.Proofs.Ytcjcbnhncfohmaa.Bv Go.Proofs.Ytcjcbnhncfohmaa.Hand

theorem two_is (c : Nat) (h : c ≤ 15) (x y : BitVec 64) : alu_Two.f (c : Int) (U x) (U y) = some (U (twoW c x y), true) := by
  unfold alu_Two.f twoF
  have hx := U_nonneg x
  have hx1 := U_lt x
  have hy := U_nonneg y
  have hy1 := U_lt y
  rw [if_pos ⟨hx, hx1, hy, hy1⟩, if_pos (by omega), ofU, ofU]; rfl
theorem two_not (op : Int) (h : ¬ (0 ≤ op ∧ op ≤ 15)) (x y : BitVec 64) : alu_Two.f op (U x) (U y) = some (0, false) := by
  unfold alu_Two.f twoF
  have hx := U_nonneg x
  have hx1 := U_lt x
  have hy := U_nonneg y
  have hy1 := U_lt y
  rw [if_pos ⟨hx, hx1, hy, hy1⟩, if_neg h]
theorem one_is (n : Nat) (h0 : 16 ≤ n) (h1 : n ≤ 24) (x y : BitVec 64) : alu_One.f (n : Int) (U x) (S y) = some (U (twoW (withN n).toNat x y), true) := by
  unfold alu_One.f oneF
  have hx := U_nonneg x
  have hx1 := U_lt x
  rw [if_pos ⟨hx, hx1, S_ge y, S_lt y, by omega, by omega⟩, if_pos ⟨by omega, by omega⟩, ofU, ofS]; rfl
theorem one_not (op : Int) (w0 : -9223372036854775808 ≤ op) (w1 : op < 9223372036854775808) (h : ¬ (16 ≤ op ∧ op ≤ 24)) (x y : BitVec 64) : alu_One.f op (U x) (S y) = some (0, false) := by
  unfold alu_One.f oneF
  have hx := U_nonneg x
  have hx1 := U_lt x
  rw [if_pos ⟨hx, hx1, S_ge y, S_lt y, w0, w1⟩, if_neg h]
theorem awake_is : caponierlaw03_awake.f = some true := by decide +kernel
theorem addW (x y : BitVec 64) : IntKind.u64.wrap (U x + U y) = U (x + y) := addU x y
theorem wrap_neg (x : BitVec 64) : IntKind.u64.wrap (-(U x)) = U (-x) := by rw [wrapU, BitVec.ofInt_neg, ofU]
theorem S_U (x : BitVec 64) : S x = if U x < 9223372036854775808 then U x else U x - 18446744073709551616 := by
  unfold S U
  rw [BitVec.toInt_eq_toNat_cond]
  split <;> split <;> omega

theorem xor_or_and (x y : BitVec 64) : x ^^^ y = (x ||| y) - (x &&& y) := by
  have h : (x ^^^ y) + (x &&& y) = x ||| y := by
    rw [BitVec.add_eq_or_of_and_eq_zero]
    · ext i; simp only [BitVec.getElem_or, BitVec.getElem_and, BitVec.getElem_xor, BitVec.getElem_zero]; cases x[i] <;> cases y[i] <;> rfl
    · ext i; simp only [BitVec.getElem_or, BitVec.getElem_and, BitVec.getElem_xor, BitVec.getElem_zero]; cases x[i] <;> cases y[i] <;> rfl
  rw [← h, BitVec.add_sub_cancel]
theorem AluBits : caponierlaw03_AluBits.Pure := by
  intro a0 a1 a2 h0 h1 h2
  obtain ⟨x, rfl⟩ := ex_U h0
  obtain ⟨y, rfl⟩ := ex_U h1
  obtain ⟨z, hz⟩ : ∃ z, wrap64 a2 = S z := ⟨_, wrapS a2⟩
  unfold caponierlaw03_AluBits.f
  rw [awake_is, Option.bind_some, if_pos rfl, hz, wrapUS]
  have t5 : alu_Two.f 5 (U x) (U y) = some (U (x ^^^ y), true) := two_is 5 (by decide) x y
  have t8 : alu_Two.f 8 (U x) (U y) = some (U (x ||| y), true) := two_is 8 (by decide) x y
  have t9 : alu_Two.f 9 (U x) (U y) = some (U (x &&& y), true) := two_is 9 (by decide) x y
  have t5' : alu_Two.f 5 (U x) (U x) = some (U (x ^^^ x), true) := two_is 5 (by decide) x x
  have o19 : alu_One.f 19 (U x) (S z) = some (U (x ^^^ z), true) := one_is 19 (by decide) (by decide) x z
  have o20 : alu_One.f 20 (U x) (S z) = some (U (x ||| z), true) := one_is 20 (by decide) (by decide) x z
  have o21 : alu_One.f 21 (U x) (S z) = some (U (x &&& z), true) := one_is 21 (by decide) (by decide) x z
  rw [t5, Option.bind_some, t8, Option.bind_some, t9, Option.bind_some, t5', Option.bind_some, o19, Option.bind_some, o20, Option.bind_some, o21, Option.bind_some]
  dsimp only
  rw [subU, ← xor_or_and, if_pos rfl, BitVec.xor_self, if_pos (by decide), if_pos rfl, if_pos rfl, if_pos rfl, xor_U, or_U, and_U, if_pos rfl, if_pos rfl]
  simp

end Go.Proofs.Ytcjcbnhncfohmaa.Pure
