/- AluBranches, over words of 64 bits: what the printed functions of package alu come to, and the law's plain statement. -/
import Derived.Test.YtcjcbnhncfohmaaQAluBranchesx1
set_option linter.unusedVariables false
set_option linter.unusedSimpArgs false
namespace Go.Proofs.Ytcjcbnhncfohmaa.Pure
open Go.RowKit Go.Proofs.Ytcjcbnhncfohmaa.QAluBranches Go.Proofs.YtcjcbnhncfohmaaW.PrintWords Go.Proofs.YtcjcbnhncfohmaaW.PrintLast Go.Proofs.Ytcjcbnhncfohmaa.Bv Go.Proofs.Ytcjcbnhncfohmaa.Hand

theorem two_is (c : Nat) (h : c ≤ 15) (x y : BitVec 64) : alu_Two.f (c : Int) (U x) (U y) = some (U (twoW c x y), true) := by
  unfold alu_Two.f twoF
  have hx := U_nonneg x
  have hx1 := U_lt x
  have hy := U_nonneg y
  have hy1 := U_lt y
  rw [if_pos ⟨hx, hx1, hy, hy1⟩, if_pos (by omega), ofU, ofU]; rfl
theorem two_not (op : Int) (h : ¬ (0 ≤ op ∧ op ≤ 15)) (x y : BitVec 64) : alu_Two.f op (U x) (U y) = some (0, false) := by
  unfold alu_Two.f twoF
  have hx := U_nonneg x
  have hx1 := U_lt x
  have hy := U_nonneg y
  have hy1 := U_lt y
  rw [if_pos ⟨hx, hx1, hy, hy1⟩, if_neg h]
theorem awake_is : caponierlaw03_awake.f = some true := by decide +kernel
theorem addW (x y : BitVec 64) : IntKind.u64.wrap (U x + U y) = U (x + y) := addU x y
theorem wrap_neg (x : BitVec 64) : IntKind.u64.wrap (-(U x)) = U (-x) := by rw [wrapU, BitVec.ofInt_neg, ofU]
theorem S_U (x : BitVec 64) : S x = if U x < 9223372036854775808 then U x else U x - 18446744073709551616 := by
  unfold S U
  rw [BitVec.toInt_eq_toNat_cond]
  split <;> split <;> omega

theorem k32 (a b : Int) : alu_Taken.f 32 a b = some ((a == b), true) := rfl
theorem k33 (a b : Int) : alu_Taken.f 33 a b = some ((a != b), true) := rfl
theorem k34 (a b : Int) : alu_Taken.f 34 a b = some (decide (wrap64 a < wrap64 b), true) := rfl
theorem k35 (a b : Int) : alu_Taken.f 35 a b = some (decide (wrap64 a ≥ wrap64 b), true) := rfl
theorem k36 (a b : Int) : alu_Taken.f 36 a b = some (decide (a < b), true) := rfl
theorem k37 (a b : Int) : alu_Taken.f 37 a b = some (decide (a ≥ b), true) := rfl
/-- How many of three are so: just one, and the loop goes on. -/
theorem three (k : Nat) (a b : Int) (p q r : Bool) (h : (p = true ∧ q = false ∧ r = false) ∨ (p = false ∧ q = true ∧ r = false) ∨ (p = false ∧ q = false ∧ r = true)) (xs : List Int) (n i : Int) :
    caponierlaw03_AluBranches.l2 (k + 4) a b 0 xs n i [p, q, r] 3 0 = caponierlaw03_AluBranches.l1 k a b xs n (wrap64 (i + 1)) := by
  have w1 : wrap64 (0 + 1) = 1 := wrap_in (by decide) (by decide)
  have w2 : wrap64 (1 + 1) = 2 := wrap_in (by decide) (by decide)
  have w3 : wrap64 (2 + 1) = 3 := wrap_in (by decide) (by decide)
  have t0 : rdOf false [true, false, false] 0 = true := rfl
  have f1 : rdOf false [true, false, false] 1 = false := rfl
  have f2 : rdOf false [true, false, false] 2 = false := rfl
  have f0 : rdOf false [false, true, false] 0 = false := rfl
  have t1 : rdOf false [false, true, false] 1 = true := rfl
  have f2' : rdOf false [false, true, false] 2 = false := rfl
  have f0' : rdOf false [false, false, true] 0 = false := rfl
  have f1' : rdOf false [false, false, true] 1 = false := rfl
  have t2 : rdOf false [false, false, true] 2 = true := rfl
  rcases h with ⟨rfl, rfl, rfl⟩ | ⟨rfl, rfl, rfl⟩ | ⟨rfl, rfl, rfl⟩
  all_goals
    rw [caponierlaw03_AluBranches.l2, if_pos (by decide), if_pos (by decide), if_pos (by decide)]
    simp only [t0, f0, f0', if_true, if_false, w1, Bool.false_eq_true]
    rw [caponierlaw03_AluBranches.l2, if_pos (by decide), if_pos (by decide), if_pos (by decide)]
    simp only [t1, f1, f1', if_true, if_false, w1, w2, Bool.false_eq_true]
    rw [caponierlaw03_AluBranches.l2, if_pos (by decide), if_pos (by decide), if_pos (by decide)]
    simp only [t2, f2, f2', if_true, if_false, w1, w3, Bool.false_eq_true]
    rw [caponierlaw03_AluBranches.l2, if_neg (by decide), if_pos rfl]
theorem AluBranches : caponierlaw03_AluBranches.Pure := by
  intro a0 a1 h0 h1
  obtain ⟨x, rfl⟩ := ex_U h0
  obtain ⟨y, rfl⟩ := ex_U h1
  clear h0 h1
  refine ⟨0 + 1 + 4 + 1 + 4 + 1 + 1 + 1 + 1 + 1, ?_⟩
  unfold caponierlaw03_AluBranches.f
  rw [awake_is, Option.bind_some, if_pos rfl, Option.bind_some]
  have w1 : wrap64 (0 + 1) = 1 := wrap_in (by decide) (by decide)
  have w2 : wrap64 (1 + 1) = 2 := wrap_in (by decide) (by decide)
  have w3 : wrap64 (2 + 1) = 3 := wrap_in (by decide) (by decide)
  have w33 : wrap64 (32 + 1) = 33 := wrap_in (by decide) (by decide)
  have w35 : wrap64 (34 + 1) = 35 := wrap_in (by decide) (by decide)
  have w37 : wrap64 (36 + 1) = 37 := wrap_in (by decide) (by decide)
  have r0 : rd [32, 34, 36] 0 = 32 := rfl
  have r1 : rd [32, 34, 36] 1 = 34 := rfl
  have r2 : rd [32, 34, 36] 2 = 36 := rfl
  have q0 : rd [34, 36] 0 = 34 := rfl
  have q1 : rd [34, 36] 1 = 36 := rfl
  have n1 : (U x == U y) = !(U x != U y) := by simp [bne]
  have e32 : ((U x == U y) == (U x != U y)) = false := by cases h : (U x == U y) <;> simp [bne, h]
  have e34 : (decide (wrap64 (U x) < wrap64 (U y)) == decide (wrap64 (U x) ≥ wrap64 (U y))) = false := by
    generalize wrap64 (U x) = p
    generalize wrap64 (U y) = q
    by_cases h : p < q
    · rw [decide_eq_true h, decide_eq_false (show ¬ p ≥ q by omega)]; rfl
    · rw [decide_eq_false h, decide_eq_true (show p ≥ q by omega)]; rfl
  have e36 : (decide (U x < U y) == decide (U x ≥ U y)) = false := by
    generalize U x = p
    generalize U y = q
    by_cases h : p < q
    · rw [decide_eq_true h, decide_eq_false (show ¬ p ≥ q by omega)]; rfl
    · rw [decide_eq_false h, decide_eq_true (show p ≥ q by omega)]; rfl
  have s34 : (decide (wrap64 (U x) < wrap64 (U y)) = true ∧ decide (wrap64 (U y) < wrap64 (U x)) = false ∧ (U x == U y) = false) ∨ (decide (wrap64 (U x) < wrap64 (U y)) = false ∧ decide (wrap64 (U y) < wrap64 (U x)) = true ∧ (U x == U y) = false) ∨ (decide (wrap64 (U x) < wrap64 (U y)) = false ∧ decide (wrap64 (U y) < wrap64 (U x)) = false ∧ (U x == U y) = true) := by
    rw [wrapSU, wrapSU]
    have hi : S x = S y ↔ U x = U y := by rw [S_inj, U_inj]
    simp only [decide_eq_true_iff, decide_eq_false_iff_not, beq_iff_eq, beq_eq_false_iff_ne, ne_eq, ← hi]
    generalize S x = p
    generalize S y = q
    omega
  have s36 : (decide (U x < U y) = true ∧ decide (U y < U x) = false ∧ (U x == U y) = false) ∨ (decide (U x < U y) = false ∧ decide (U y < U x) = true ∧ (U x == U y) = false) ∨ (decide (U x < U y) = false ∧ decide (U y < U x) = false ∧ (U x == U y) = true) := by
    simp only [decide_eq_true_iff, decide_eq_false_iff_not, beq_iff_eq, beq_eq_false_iff_ne, ne_eq]
    generalize U x = p
    generalize U y = q
    omega
  have l0a : ∀ k, caponierlaw03_AluBranches.l0 (k + 1 + 1 + 1 + 1) (U x) (U y) [32, 34, 36] 3 0 = caponierlaw03_AluBranches.l1 k (U x) (U y) [34, 36] 2 0 := by
    intro k
    have f32 : ¬ ((U x == U y) == (U x != U y)) = true := by rw [e32]; decide
    have f34 : ¬ (decide (wrap64 (U x) < wrap64 (U y)) == decide (wrap64 (U x) ≥ wrap64 (U y))) = true := by rw [e34]; decide
    have f36 : ¬ (decide (U x < U y) == decide (U x ≥ U y)) = true := by rw [e36]; decide
    rw [caponierlaw03_AluBranches.l0, if_pos (by decide), if_pos (by decide), if_pos (by decide), r0, k32, Option.bind_some, w33, k33, Option.bind_some]
    dsimp only
    rw [if_pos rfl, if_pos rfl, if_neg f32, w1]
    rw [caponierlaw03_AluBranches.l0, if_pos (by decide), if_pos (by decide), if_pos (by decide), r1, k34, Option.bind_some, w35, k35, Option.bind_some]
    dsimp only
    rw [if_pos rfl, if_pos rfl, if_neg f34, w2]
    rw [caponierlaw03_AluBranches.l0, if_pos (by decide), if_pos (by decide), if_pos (by decide), r2, k36, Option.bind_some, w37, k37, Option.bind_some]
    dsimp only
    rw [if_pos rfl, if_pos rfl, if_neg f36, w3]
    rw [caponierlaw03_AluBranches.l0, if_neg (by decide), Option.bind_some]
    rfl
  have ln : ∀ p q r : Bool, (([p, q, r] : List Bool).length : Int) = 3 := fun _ _ _ => rfl
  have l1a : ∀ k, caponierlaw03_AluBranches.l1 (k + 4 + 1) (U x) (U y) [34, 36] 2 0 = caponierlaw03_AluBranches.l1 k (U x) (U y) [34, 36] 2 1 := by
    intro k
    rw [caponierlaw03_AluBranches.l1, if_pos (by decide), if_pos (by decide), if_pos (by decide), q0, k34, Option.bind_some, k34, Option.bind_some, k32, Option.bind_some, Option.bind_some, ln]
    exact (three k (U x) (U y) _ _ _ s34 [34, 36] 2 0).trans (by rw [w1])
  have l1b : ∀ k, caponierlaw03_AluBranches.l1 (k + 1 + 4 + 1) (U x) (U y) [34, 36] 2 1 = some true := by
    intro k
    rw [caponierlaw03_AluBranches.l1, if_pos (by decide), if_pos (by decide), if_pos (by decide), q1, k36, Option.bind_some, k36, Option.bind_some, k32, Option.bind_some, Option.bind_some, ln]
    refine (three (k + 1) (U x) (U y) _ _ _ s36 [34, 36] 2 1).trans ?_
    rw [w2, caponierlaw03_AluBranches.l1, if_neg (by decide)]
  show caponierlaw03_AluBranches.l0 (0 + 1 + 4 + 1 + 4 + 1 + 1 + 1 + 1 + 1) (U x) (U y) [32, 34, 36] 3 0 = some true
  rw [l0a, l1a, l1b]

end Go.Proofs.Ytcjcbnhncfohmaa.Pure
