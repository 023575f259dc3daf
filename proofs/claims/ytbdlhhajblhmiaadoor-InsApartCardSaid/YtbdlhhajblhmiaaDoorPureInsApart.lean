/- The plain law of InsApart. No condition. -/
import Derived.Test.YtbdlhhajblhmiaaDoorQInsApartx4
import Derived.Test.YtbdlhhajblhmiaaDoorInsR
set_option linter.unusedVariables false
set_option linter.unusedSimpArgs false
namespace Go.Proofs.YtbdlhhajblhmiaaDoor.Pure
open Go.RowKit Go.Proofs.YtbdlhhajblhmiaaDoor.QInsApart Go.Proofs.YtbdlhhajblhmiaaDoorW.PrintWords Go.Proofs.YtbdlhhajblhmiaaDoorW.PrintLast Go.Proofs.YtbdlhhajblhmiaaDoor.Bv Go.Proofs.YtbdlhhajblhmiaaDoor.Ins

theorem awake_is : caponierlaw02_awake.f = some true := by decide +kernel
theorem refForm (k : Nat) (op : Int) : caponierref02_Form.f (k + 2) op = some (formF op) := by
  unfold caponierref02_Form.f formF
  by_cases h0 : op < 0
  · rw [if_pos h0, if_neg (by omega)]
    simp only [caponierref02_Form.j0, if_true]
  · rw [if_neg h0]
    by_cases h1 : 42 < op
    · rw [show decide (op > 42) = true from decide_eq_true h1, if_neg (by omega)]
      simp only [caponierref02_Form.j0, if_true]
    · rw [show decide (op > 42) = false from decide_eq_false h1, if_pos (by omega)]
      obtain ⟨x, rfl⟩ := Int.eq_ofNat_of_zero_le (show 0 ≤ op by omega)
      simp only [caponierref02_Form.j0, caponierref02_Form.j1, Bool.false_eq_true, if_false, Int.toNat_natCast, if_true]
      unfold fm
      by_cases a1 : x ≤ 15
      · rw [if_pos (show (x : Int) ≤ 15 by omega), if_pos a1]; rfl
      · rw [if_neg (show ¬ (x : Int) ≤ 15 by omega), if_neg a1]
        by_cases a2 : x ≤ 28
        · rw [if_pos (show (x : Int) ≤ 28 by omega), if_pos a2]; rfl
        · rw [if_neg (show ¬ (x : Int) ≤ 28 by omega), if_neg a2]
          by_cases a7 : x = 41
          · subst a7; rfl
          · rw [if_neg (show ¬ (((x : Int) == 41) = true) by simp; omega)]
            by_cases a3 : x ≤ 31
            · rw [if_pos (show (x : Int) ≤ 31 by omega), if_pos a3]; rfl
            · rw [if_neg (show ¬ (x : Int) ≤ 31 by omega), if_neg a3]
              by_cases a4 : x ≤ 37
              · rw [if_pos (show (x : Int) ≤ 37 by omega), if_pos a4]; rfl
              · rw [if_neg (show ¬ (x : Int) ≤ 37 by omega), if_neg a4]
                by_cases a5 : x ≤ 39
                · rw [if_pos (show (x : Int) ≤ 39 by omega), if_pos a5]; rfl
                · rw [if_neg (show ¬ (x : Int) ≤ 39 by omega), if_neg a5]
                  by_cases a6 : x = 40
                  · rw [if_pos (show (x : Int) = 40 by omega), if_pos a6]; rfl
                  · rw [if_neg (show ¬ (x : Int) = 40 by omega), if_neg a6, if_neg a7]; rfl
theorem refShift (x : Nat) : caponierref02_Shift.f (x : Int) = some (shf x) := by
  unfold caponierref02_Shift.f shf
  by_cases h : 22 ≤ x
  · rw [if_pos (show (x : Int) ≥ 22 by omega)]
    refine congrArg some ?_
    rw [decide_eq_decide]; omega
  · rw [if_neg (show ¬ (x : Int) ≥ 22 by omega), decide_eq_false (by omega)]
theorem tm_zero (m k : Int) : (Int.tmod m k = 0) ↔ m % k = 0 := by
  rw [← Int.dvd_iff_tmod_eq_zero, Int.dvd_iff_emod_eq_zero]
theorem may_reg {x : Nat} {d a b n : Int} : MayS (x : Int) d a b n ↔ x ≤ 42 ∧ regS d (fm x).d ∧ regS a (fm x).a ∧ regS b (fm x).b ∧ immS (fm x) (shf x) n :=
  ⟨fun m => ⟨by have := m.op1; omega, by simpa using m.rd, by simpa using m.r1, by simpa using m.r2, by simpa using m.imm⟩, fun ⟨h0, h1, h2, h3, h4⟩ => ⟨by omega, by omega, by simpa using h1, by simpa using h2, by simpa using h3, by simpa using h4⟩⟩
set_option maxHeartbeats 4000000 in
theorem refMay (k : Nat) (op d a b n : Int) (m : Bool) (hm : m = true ↔ MayS op d a b n) : caponierref02_May.f (k + 3) op d a b n = some m := by
  unfold caponierref02_May.f
  rw [refForm (k + 1) op, Option.bind_some]
  by_cases hop : 0 ≤ op ∧ op ≤ 42
  · obtain ⟨x, rfl⟩ := Int.eq_ofNat_of_zero_le hop.1
    have hx : x ≤ 42 := by omega
    rw [may_reg] at hm
    rw [formF_at hop.1 hop.2, Int.toNat_natCast]
    have sl := s_list (fm x)
    simp only [caponierref02_May.j0, caponierref02_May.j1, caponierref02_May.j2, sl, refShift, Option.bind_some]
    clear sl
    have hn : ∀ q : Bool, (q = true ↔ m = true) → some q = some m := fun q h => by rw [Bool.eq_iff_iff.2 h]
    have hsI : shf x = true → fm x = .I := shf_I x
    cases hs : shf x
    · cases hf : fm x <;> rw [hf, hs] at hm <;> simp [Fm.c, Fm.d, Fm.a, Fm.b, immS, regS, tm_zero] at hm ⊢
      all_goals
        clear hsI hf hs
        repeat' split
        all_goals
          refine hn _ ?_
          rw [hm]
          simp only [decide_eq_true_eq, beq_iff_eq, Bool.false_eq_true, tm_zero, false_iff]
          omega
    · have hf := hsI hs
      rw [hf, hs] at hm
      rw [hf]
      simp [Fm.c, Fm.d, Fm.a, Fm.b, immS, regS, tm_zero] at hm ⊢
      clear hsI hf hs
      repeat' split
      all_goals
        refine hn _ ?_
        rw [hm]
        simp only [decide_eq_true_eq, beq_iff_eq, Bool.false_eq_true, tm_zero, false_iff]
        omega
  · have e : m = false := Bool.eq_false_iff.2 (fun e => hop ⟨(hm.1 e).op0, (hm.1 e).op1⟩)
    rw [formF_no hop, e]
    rw [if_pos (by decide +kernel)]
    simp only [caponierref02_May.j0, if_true]
theorem InsApart (op d a b n op' d' a' b' n' : Int) (h0 : (Lit.int .i64 op).wf = true) (h1 : (Lit.int .i64 d).wf = true) (h2 : (Lit.int .i64 a).wf = true) (h3 : (Lit.int .i64 b).wf = true) (h4 : (Lit.int .i64 n).wf = true)
    (h0' : (Lit.int .i64 op').wf = true) (h1' : (Lit.int .i64 d').wf = true) (h2' : (Lit.int .i64 a').wf = true) (h3' : (Lit.int .i64 b').wf = true) (h4' : (Lit.int .i64 n').wf = true) :
    ∃ k, caponierlaw02_InsApart.f k op d a b n op' d' a' b' n' = some true := by
  refine ⟨5, ?_⟩
  unfold caponierlaw02_InsApart.f
  rw [awake_is, Option.bind_some, if_pos rfl]
  have ee : ∀ op d a b n, ins_Encode.f op d a b n = encO op d a b n := fun _ _ _ _ _ => rfl
  rw [ee, ee]
  by_cases m : MayS op d a b n
  · rw [encO_yes h4 m, Option.bind_some]
    by_cases m' : MayS op' d' a' b' n'
    · rw [encO_yes h4' m', Option.bind_some]
      dsimp only
      rw [if_pos rfl, if_pos rfl]
      refine congrArg some ?_
      by_cases e : encS op.toNat d a b n = encS op'.toNat d' a' b' n'
      · obtain ⟨rfl, rfl, rfl, rfl, rfl⟩ := encS_inj m m' e
        simp
      · have q : (op == op' && (d == d' && (a == a' && (b == b' && (n == n'))))) = false := by
          rw [Bool.eq_false_iff]
          intro g
          simp only [Bool.and_eq_true, beq_iff_eq] at g
          obtain ⟨rfl, rfl, rfl, rfl, rfl⟩ := g
          exact e rfl
        rw [q, beq_eq_false_iff_ne.2 e]
        rfl
    · rw [encO_no h4' m', Option.bind_some]
      dsimp only
      rw [if_pos rfl, if_neg (by decide)]
  · have hr := refMay 2 op d a b n false ⟨fun h => (by cases h), fun h => absurd h m⟩
    rw [encO_no h4 m, Option.bind_some]
    by_cases m' : MayS op' d' a' b' n'
    · rw [encO_yes h4' m', Option.bind_some]
      dsimp only
      rw [if_neg (by decide), if_pos rfl, hr]
      rfl
    · rw [encO_no h4' m', Option.bind_some]
      dsimp only
      rw [if_neg (by decide), if_pos rfl, hr]
      rfl
end Go.Proofs.YtbdlhhajblhmiaaDoor.Pure
