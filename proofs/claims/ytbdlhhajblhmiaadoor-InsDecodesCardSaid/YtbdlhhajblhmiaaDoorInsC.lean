/- What May and parts of package ins come to: contracts, walked. -/
import Derived.Test.YtbdlhhajblhmiaaDoorInsB
set_option linter.unusedVariables false
set_option linter.unusedSimpArgs false
namespace Go.Proofs.YtbdlhhajblhmiaaDoor.Ins
open Go Go.RowKit Go.Proofs Go.Proofs.YtbdlhhajblhmiaaDoorW.PrintWords Go.Proofs.YtbdlhhajblhmiaaDoor.Bv Go.Proofs.YtbdlhhajblhmiaaDoor.Bw Go.Proofs.YtbdlhhajblhmiaaDoor.BL Go.Proofs.YtbdlhhajblhmiaaDoor.QEncode

/-- Whether a number is a register's, or 0, if there is none. -/
def regB (n : Int) (has : Bool) : Bool := decide (n = 0 ∨ has = true ∧ 0 < n ∧ n < 32)
def Fm.d : Fm → Bool | .R => true | .I => true | .U => true | .J => true | _ => false
def Fm.a : Fm → Bool | .R => true | .I => true | .S => true | .B => true | _ => false
def Fm.b : Fm → Bool | .R => true | .S => true | .B => true | _ => false
theorem reg_c (n : Int) (has : Bool) (w : World) : Calls Tryd.prog 28 #[.int .i64 n, .bool has] w fun e w' => e = .returned (.bool (regB n has)) ∧ Drawn0 w w' := by
  refine ins_reg.calls n has _ w ?_
  unfold ins_reg.f regB
  by_cases h : n = 0
  · rw [if_pos h, decide_eq_true (Or.inl h)]
  · rw [if_neg h]
    cases has with
    | true =>
      rw [if_pos rfl]
      by_cases h2 : n > 0
      · rw [if_pos h2]
        refine congrArg some ?_
        rw [decide_eq_decide]
        constructor
        · intro h3; exact Or.inr ⟨rfl, h2, h3⟩
        · rintro (h3 | ⟨_, _, h3⟩)
          · exact absurd h3 h
          · exact h3
      · rw [if_neg h2, decide_eq_false]
        rintro (h3 | ⟨_, h3, _⟩)
        · exact h h3
        · exact h2 h3
    | false =>
      rw [if_neg (by decide), decide_eq_false]
      rintro (h3 | ⟨h3, _⟩)
      · exact h h3
      · cases h3
theorem has_c (f : Fm) (w : World) : Calls Tryd.prog 27 #[.string f.s] w fun e w' => e = .returned (.tuple #[.bool f.d, .bool f.a, .bool f.b]) ∧ Drawn0 w w' := by
  refine ins_has.calls 1 f.s _ _ _ w ?_
  cases f <;> kernel_rfl
theorem has_none (w : World) : Calls Tryd.prog 27 #[.string ⟨#[]⟩] w fun e w' => e = .returned (.tuple #[.bool false, .bool false, .bool false]) ∧ Drawn0 w w' := by
  refine ins_has.calls 1 ⟨#[]⟩ _ _ _ w ?_
  kernel_rfl
/-- Whether the number is one of the operation's. -/
def immF (op : Int) (z : BitVec 64) : Bool := immB (fm op.toNat) (decide (22 ≤ op ∧ op ≤ 24)) z
theorem bool_beq (n : Int) : (n == 0) = decide (n = 0) := by
  by_cases h : n = 0
  · rw [decide_eq_true h]; simp [h]
  · rw [decide_eq_false h]; simp [h]
theorem imm_any (op rd r1 r2 : Int) (h0 : 0 ≤ op) (h1 : op ≤ 42) (z : BitVec 64) (w : World) (L : Laid w) :
    Calls Tryd.prog 29 #[.agg #[.int .i64 op, .int .i64 rd, .int .i64 r1, .int .i64 r2, .int .i64 (S z)]] w fun e w' => e = .returned (.bool (immF op z)) ∧ Below w.heap.size w w' := by
  have hc := L.form op.toNat (by omega)
  have hsz := L.size
  unfold immF
  clear L
  cases hf : fm op.toNat
  · rw [hf] at hc
    replace hc : w.cell? ⟨0, op.toNat * 4, none⟩ = some (.string ⟨#[82]⟩) := hc
    have e : ∀ b, immB .R b z = (S z == 0) := fun b => by simp only [immB]; exact (bool_beq _).symm
    rw [e]
    exact imm_R op rd r1 r2 h0 h1 z w hsz hc
  · rw [hf] at hc
    replace hc : w.cell? ⟨0, op.toNat * 4, none⟩ = some (.string ⟨#[73]⟩) := hc
    by_cases hs : 22 ≤ op ∧ op ≤ 24
    · rw [decide_eq_true hs]
      by_cases hp : 0 ≤ S z
      · have e : immB .I true z = decide (z.toNat < 2 ^ 6) := by
          simp only [immB, if_true]
          rw [decide_eq_true hp, Bool.true_and]
        rw [e]
        exact imm_Ish op rd r1 r2 h0 h1 z w hsz hc hs hp
      · have e : immB .I true z = false := by
          simp only [immB, if_true]
          rw [decide_eq_false hp, Bool.false_and]
        rw [e]
        exact imm_Ishn op rd r1 r2 h0 h1 z w hsz hc hs (by omega)
    · rw [decide_eq_false hs]
      have e : immB .I false z = decide (sg z 12 = z) := by simp only [immB, Bool.false_eq_true, if_false]
      rw [e]
      exact imm_I op rd r1 r2 h0 h1 z w hsz hc hs
  · rw [hf] at hc
    replace hc : w.cell? ⟨0, op.toNat * 4, none⟩ = some (.string ⟨#[83]⟩) := hc
    have e : ∀ b, immB .S b z = decide (sg z 12 = z) := fun b => by simp only [immB]
    rw [e]
    exact imm_S op rd r1 r2 h0 h1 z w hsz hc
  · rw [hf] at hc
    replace hc : w.cell? ⟨0, op.toNat * 4, none⟩ = some (.string ⟨#[66]⟩) := hc
    by_cases hy : sg z 13 = z
    · have e : ∀ b, immB .B b z = (Go.bits .and .i64 (S z) 1 == 0) := fun b => by
        simp only [immB]
        rw [decide_eq_true hy, Bool.true_and]
      rw [e]
      exact imm_By op rd r1 r2 h0 h1 z w hsz hc hy
    · have e : ∀ b, immB .B b z = false := fun b => by
        simp only [immB]
        rw [decide_eq_false hy, Bool.false_and]
      rw [e]
      exact imm_Bn op rd r1 r2 h0 h1 z w hsz hc hy
  · rw [hf] at hc
    replace hc : w.cell? ⟨0, op.toNat * 4, none⟩ = some (.string ⟨#[85]⟩) := hc
    by_cases hy : sg z 32 = z
    · have e : ∀ b, immB .U b z = (Go.bits .and .i64 (S z) 4095 == 0) := fun b => by
        simp only [immB]
        rw [decide_eq_true hy, Bool.true_and]
      rw [e]
      exact imm_Uy op rd r1 r2 h0 h1 z w hsz hc hy
    · have e : ∀ b, immB .U b z = false := fun b => by
        simp only [immB]
        rw [decide_eq_false hy, Bool.false_and]
      rw [e]
      exact imm_Un op rd r1 r2 h0 h1 z w hsz hc hy
  · rw [hf] at hc
    replace hc : w.cell? ⟨0, op.toNat * 4, none⟩ = some (.string ⟨#[74]⟩) := hc
    by_cases hy : sg z 21 = z
    · have e : ∀ b, immB .J b z = (Go.bits .and .i64 (S z) 1 == 0) := fun b => by
        simp only [immB]
        rw [decide_eq_true hy, Bool.true_and]
      rw [e]
      exact imm_Jy op rd r1 r2 h0 h1 z w hsz hc hy
    · have e : ∀ b, immB .J b z = false := fun b => by
        simp only [immB]
        rw [decide_eq_false hy, Bool.false_and]
      rw [e]
      exact imm_Jn op rd r1 r2 h0 h1 z w hsz hc hy
  · rw [hf] at hc
    replace hc : w.cell? ⟨0, op.toNat * 4, none⟩ = some (.string ⟨#[69]⟩) := hc
    have e : ∀ b, immB .E b z = (S z == 0) := fun b => by simp only [immB]; exact (bool_beq _).symm
    rw [e]
    exact imm_E op rd r1 r2 h0 h1 z w hsz hc
/-- What May tells. -/
def mayF (op rd r1 r2 : Int) (z : BitVec 64) : Bool :=
  decide (0 ≤ op ∧ op ≤ 42) && regB rd (fm op.toNat).d && regB r1 (fm op.toNat).a && regB r2 (fm op.toNat).b && immF op z
abbrev insV (op rd r1 r2 n : Int) : Value := .agg #[.int .i64 op, .int .i64 rd, .int .i64 r1, .int .i64 r2, .int .i64 n]
set_option maxHeartbeats 2000000 in
set_option maxRecDepth 100000 in
theorem may_any (op rd r1 r2 : Int) (z : BitVec 64) (w : World) (L : Laid w) :
    Calls Tryd.prog 12 #[insV op rd r1 r2 (S z)] w fun e w' => e = .returned (.bool (mayF op rd r1 r2 z)) ∧ Below w.heap.size w w' := by
  by_cases hop : 0 ≤ op ∧ op ≤ 42
  · have hF : ∀ w', Below w.heap.size w w' → Calls Tryd.prog 14 #[.int .i64 op] w' fun e w'' => e = .returned (.string (fm op.toNat).s) ∧ w'' = w' := by
      intro w' hb
      have g := form_any op w' (L.below hb)
      unfold formF at g
      rwa [if_pos hop] at g
    have hI : ∀ w', Below w.heap.size w w' → Calls Tryd.prog 29 #[insV op rd r1 r2 (S z)] w' fun e w'' => e = .returned (.bool (immF op z)) ∧ Below w'.heap.size w' w'' :=
      fun w' hb => imm_any op rd r1 r2 hop.1 hop.2 z w' (L.below hb)
    have hH := has_c (fm op.toNat)
    have hR := reg_c
    have e0 : mayF op rd r1 r2 z = (regB rd (fm op.toNat).d && regB r1 (fm op.toNat).a && regB r2 (fm op.toNat).b && immF op z) := by
      unfold mayF; rw [decide_eq_true hop, Bool.true_and]
    rw [e0]
    clear e0 hop
    have hne : ∀ f : Fm, f.s.toList.isEmpty = false := fun f => by cases f <;> kernel_rfl
    have hne2 : ∀ f : Fm, ¬ f.s.toList = [] := fun f h => by have := hne f; rw [h] at this; cases this
    replace hne := hne (fm op.toNat)
    replace hne2 := hne2 (fm op.toNat)
    generalize (fm op.toNat).s = s at *
    generalize (fm op.toNat).d = d at *
    generalize (fm op.toNat).a = a at *
    generalize (fm op.toNat).b = b at *
    generalize immF op z = i at *
    generalize S z = n at *
    have B1 : ∀ o : Obj, Below w.heap.size w (w.alloc o) := fun o => (Below.refl _ _).alloc (Nat.le_refl _) o
    have B2 : ∀ (o : Obj) (m : Nat), Below w.heap.size w ((w.alloc o).drewN m) := fun o m => pw_below_drewN (B1 o) m
    by_cases q1 : regB rd d = true
    · by_cases q2 : regB r1 a = true
      · by_cases q3 : regB r2 b = true
        · rw [q1, q2, q3]
          go_enter Tryd.func12, Tryd.ntmps12
          go_wp2_with (first | (go_at_call 14; refine (hF _ (B1 _)).mono ?_; rintro e w' ⟨rfl, rfl⟩) | (go_at_call 27; refine (hH _).mono ?_; rintro e w' ⟨rfl, ⟨nd, rfl⟩⟩) | (go_at_call 28; refine (hR _ _ _).mono ?_; rintro e w' ⟨rfl, ⟨nd, rfl⟩⟩) | (go_at_call 29; refine (hI _ (by repeat (first | exact B1 _ | apply pw_below_drewN))).mono ?_; rintro e w' ⟨rfl, hb⟩))
          go_ret
          exact ⟨by simp, below_then (by repeat (first | exact B1 _ | apply pw_below_drewN)) (by first | exact hb.size | simp) hb⟩
        · replace q3 := Bool.eq_false_iff.mpr q3
          rw [q1, q2, q3]
          go_enter Tryd.func12, Tryd.ntmps12
          go_wp2_with (first | (go_at_call 14; refine (hF _ (B1 _)).mono ?_; rintro e w' ⟨rfl, rfl⟩) | (go_at_call 27; refine (hH _).mono ?_; rintro e w' ⟨rfl, ⟨nd, rfl⟩⟩) | (go_at_call 28; refine (hR _ _ _).mono ?_; rintro e w' ⟨rfl, ⟨nd, rfl⟩⟩) | (go_at_call 29; refine (hI _ (by repeat (first | exact B1 _ | apply pw_below_drewN))).mono ?_; rintro e w' ⟨rfl, hb⟩))
          go_ret
          exact ⟨by simp, (by repeat (first | exact B1 _ | apply pw_below_drewN))⟩
      · replace q2 := Bool.eq_false_iff.mpr q2
        rw [q1, q2]
        go_enter Tryd.func12, Tryd.ntmps12
        go_wp2_with (first | (go_at_call 14; refine (hF _ (B1 _)).mono ?_; rintro e w' ⟨rfl, rfl⟩) | (go_at_call 27; refine (hH _).mono ?_; rintro e w' ⟨rfl, ⟨nd, rfl⟩⟩) | (go_at_call 28; refine (hR _ _ _).mono ?_; rintro e w' ⟨rfl, ⟨nd, rfl⟩⟩) | (go_at_call 29; refine (hI _ (by repeat (first | exact B1 _ | apply pw_below_drewN))).mono ?_; rintro e w' ⟨rfl, hb⟩))
        go_ret
        exact ⟨by simp, (by repeat (first | exact B1 _ | apply pw_below_drewN))⟩
    · replace q1 := Bool.eq_false_iff.mpr q1
      rw [q1]
      go_enter Tryd.func12, Tryd.ntmps12
      go_wp2_with (first | (go_at_call 14; refine (hF _ (B1 _)).mono ?_; rintro e w' ⟨rfl, rfl⟩) | (go_at_call 27; refine (hH _).mono ?_; rintro e w' ⟨rfl, ⟨nd, rfl⟩⟩) | (go_at_call 28; refine (hR _ _ _).mono ?_; rintro e w' ⟨rfl, ⟨nd, rfl⟩⟩) | (go_at_call 29; refine (hI _ (by repeat (first | exact B1 _ | apply pw_below_drewN))).mono ?_; rintro e w' ⟨rfl, hb⟩))
      go_ret
      exact ⟨by simp, (by repeat (first | exact B1 _ | apply pw_below_drewN))⟩
  · have e0 : mayF op rd r1 r2 z = false := by
      unfold mayF; rw [decide_eq_false hop]; simp
    rw [e0]
    have hF := form_no op hop
    have hH := has_none
    clear hop
    generalize S z = n at *
    have B1 : ∀ o : Obj, Below w.heap.size w (w.alloc o) := fun o => (Below.refl _ _).alloc (Nat.le_refl _) o
    go_enter Tryd.func12, Tryd.ntmps12
    go_wp2_with (first | (go_at_call 14; refine (hF _).mono ?_; rintro e w' ⟨rfl, rfl⟩) | (go_at_call 27; refine (hH _).mono ?_; rintro e w' ⟨rfl, ⟨nd, rfl⟩⟩))
    go_ret
    exact ⟨by simp, (by repeat (first | exact B1 _ | apply pw_below_drewN))⟩
end Go.Proofs.YtbdlhhajblhmiaaDoor.Ins
