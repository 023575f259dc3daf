/- AluDivides, over words of 64 bits: what the printed functions of package alu come to, and the law's plain statement. -/
import Derived.Test.YtcjcbnhncfohmaaQAluDividesx1
set_option linter.unusedVariables false
set_option linter.unusedSimpArgs false
namespace Go.Proofs.Ytcjcbnhncfohmaa.Pure
open Go.RowKit Go.Proofs.Ytcjcbnhncfohmaa.QAluDivides Go.Proofs.YtcjcbnhncfohmaaW.PrintWords Go.Proofs.YtcjcbnhncfohmaaW.PrintLast Go.Proofs.Ytcjcbnhncfohmaa.Bv Go.Proofs.Ytcjcbnhncfohmaa.Hand

theorem two_is (c : Nat) (h : c ≤ 15) (x y : BitVec 64) : alu_Two.f (c : Int) (U x) (U y) = some (U (twoW c x y), true) := by
  unfold alu_Two.f twoF
  have hx := U_nonneg x
  have hx1 := U_lt x
  have hy := U_nonneg y
  have hy1 := U_lt y
  rw [if_pos ⟨hx, hx1, hy, hy1⟩, if_pos (by omega), ofU, ofU]; rfl
theorem two_not (op : Int) (h : ¬ (0 ≤ op ∧ op ≤ 15)) (x y : BitVec 64) : alu_Two.f op (U x) (U y) = some (0, false) := by
  unfold alu_Two.f twoF
  have hx := U_nonneg x
  have hx1 := U_lt x
  have hy := U_nonneg y
  have hy1 := U_lt y
  rw [if_pos ⟨hx, hx1, hy, hy1⟩, if_neg h]
theorem awake_is : caponierlaw03_awake.f = some true := by decide +kernel
theorem addW (x y : BitVec 64) : IntKind.u64.wrap (U x + U y) = U (x + y) := addU x y
theorem wrap_neg (x : BitVec 64) : IntKind.u64.wrap (-(U x)) = U (-x) := by rw [wrapU, BitVec.ofInt_neg, ofU]
theorem S_U (x : BitVec 64) : S x = if U x < 9223372036854775808 then U x else U x - 18446744073709551616 := by
  unfold S U
  rw [BitVec.toInt_eq_toNat_cond]
  split <;> split <;> omega

theorem U_neg (x : BitVec 64) (h : S x < 0) : U (-x) = - S x := by
  rw [← wrap_neg, IntKind.wrap_u64]
  have h1 := S_U x
  have h2 := U_nonneg x
  have h3 := U_lt x
  split at h1 <;> omega
theorem U_pos (x : BitVec 64) (h : ¬ S x < 0) : U x = S x := by
  have h1 := S_U x
  have h2 := U_nonneg x
  have h3 := U_lt x
  split at h1 <;> omega
theorem tmod_lt (a b : Int) (hb : b ≠ 0) : (Int.tmod a b).natAbs < b.natAbs := by
  rw [Int.natAbs_tmod]
  exact Nat.mod_lt _ (by omega)
theorem tmod_sign (a b : Int) : (0 ≤ a → 0 ≤ Int.tmod a b) ∧ (a ≤ 0 → Int.tmod a b ≤ 0) := by
  refine ⟨fun h => Int.tmod_nonneg _ h, fun h => ?_⟩
  have g : 0 ≤ Int.tmod (-a) b := Int.tmod_nonneg _ (by omega)
  rw [Int.neg_tmod] at g
  omega
theorem AluDivides : caponierlaw03_AluDivides.Pure := by
  intro a0 a1 h0 h1
  obtain ⟨x, rfl⟩ := ex_U h0
  obtain ⟨y, rfl⟩ := ex_U h1
  clear h0 h1
  unfold caponierlaw03_AluDivides.f
  have t13 : alu_Two.f 13 (U x) (U y) = some (U (twoW 13 x y), true) := two_is 13 (by decide) x y
  have t15 : alu_Two.f 15 (U x) (U y) = some (U (twoW 15 x y), true) := two_is 15 (by decide) x y
  have t12 : alu_Two.f 12 (U x) (U y) = some (U (twoW 12 x y), true) := two_is 12 (by decide) x y
  have t14 : alu_Two.f 14 (U x) (U y) = some (U (twoW 14 x y), true) := two_is 14 (by decide) x y
  rw [awake_is, Option.bind_some, if_pos rfl, t13, Option.bind_some, t15, Option.bind_some, t12, Option.bind_some, t14, Option.bind_some]
  dsimp only
  by_cases hy : U y = 0
  · have e13 : twoW 13 x y = BitVec.ofInt 64 (-1) := if_pos hy
    have e15 : twoW 15 x y = x := if_pos hy
    have e12 : twoW 12 x y = BitVec.ofInt 64 (-1) := if_pos hy
    have e14 : twoW 14 x y = x := if_pos hy
    rw [if_pos hy, e13, e15, e12, e14, if_pos (by decide), if_pos (by decide), if_pos rfl]
    simp
  · have e13 : twoW 13 x y = BitVec.ofInt 64 (U x / U y) := if_neg hy
    have e15 : twoW 15 x y = BitVec.ofInt 64 (U x % U y) := if_neg hy
    have e12 : twoW 12 x y = BitVec.ofInt 64 (Int.tdiv (S x) (S y)) := if_neg hy
    have e14 : twoW 14 x y = BitVec.ofInt 64 (Int.tmod (S x) (S y)) := if_neg hy
    rw [if_neg hy, e13, e15, e12, e14]
    have hyS : S y ≠ 0 := fun g => hy ((U_zero_S y).2 g)
    have f1 : IntKind.u64.wrap (IntKind.u64.wrap (U (BitVec.ofInt 64 (U x / U y)) * U y) + U (BitVec.ofInt 64 (U x % U y))) = U x := by
      rw [mulU, addU, U_inj]
      have e : y = BitVec.ofInt 64 (U y) := (ofU y).symm
      conv => lhs; arg 1; rw [e]
      rw [← BitVec.ofInt_mul, ofU, ← BitVec.ofInt_add, Int.ediv_mul_add_emod, ofU]
    have f2 : U (BitVec.ofInt 64 (U x % U y)) < U y := by
      have g0 := U_nonneg y
      have g1 := U_lt y
      have g2 := Int.emod_lt_of_pos (U x) (show 0 < U y by omega)
      rw [U_of (Int.emod_nonneg _ hy) (by omega)]
      exact g2
    have f3 : IntKind.u64.wrap (IntKind.u64.wrap (U (BitVec.ofInt 64 (Int.tdiv (S x) (S y))) * U y) + U (BitVec.ofInt 64 (Int.tmod (S x) (S y)))) = U x := by
      rw [mulU, addU, U_inj]
      have e : y = BitVec.ofInt 64 (S y) := (ofS y).symm
      conv => lhs; arg 1; arg 2; rw [e]
      rw [← BitVec.ofInt_mul, ← BitVec.ofInt_add, Int.tdiv_mul_add_tmod, ofS]
    have ml := tmod_lt (S x) (S y) hyS
    have ms := tmod_sign (S x) (S y)
    have yg := S_ge y
    have yl := S_lt y
    obtain ⟨s, hs⟩ : ∃ s, BitVec.ofInt 64 (Int.tmod (S x) (S y)) = s := ⟨_, rfl⟩
    have hS : S s = Int.tmod (S x) (S y) := by
      rw [← hs]; exact S_of (by omega) (by omega)
    rw [hs] at f3 ⊢
    rw [← hS] at ml ms
    rw [f1, f3, wrapSU, wrapSU, wrapSU, wrap_neg, wrap_neg]
    simp only [if_true, f2]
    have fin : (if U s = 0 then some true else some (decide (S s < 0) == decide (S x < 0))) = some true := by
      by_cases h0 : U s = 0
      · rw [if_pos h0]
      · have h0' : S s ≠ 0 := fun g => h0 ((U_zero_S s).2 g)
        rw [if_neg h0]
        refine congrArg some ?_
        rw [beq_iff_eq, decide_eq_decide]
        omega
    by_cases h1 : S s < 0
    · have u1 := U_neg s h1
      rw [if_pos h1]
      by_cases h2 : S y < 0
      · have u2 := U_neg y h2
        rw [if_pos h2, if_pos (by omega)]; exact fin
      · have u2 := U_pos y h2
        rw [if_neg h2, if_pos (by omega)]; exact fin
    · have u1 := U_pos s h1
      rw [if_neg h1]
      by_cases h2 : S y < 0
      · have u2 := U_neg y h2
        rw [if_pos h2, if_pos (by omega)]; exact fin
      · have u2 := U_pos y h2
        rw [if_neg h2, if_pos (by omega)]; exact fin

end Go.Proofs.Ytcjcbnhncfohmaa.Pure
