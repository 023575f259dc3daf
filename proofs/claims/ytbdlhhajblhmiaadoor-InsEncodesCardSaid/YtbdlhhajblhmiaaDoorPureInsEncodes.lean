/- The plain law of InsEncodes. No condition. -/
import Derived.Test.YtbdlhhajblhmiaaDoorQInsEncodesx6
import Derived.Test.YtbdlhhajblhmiaaDoorInsR
set_option linter.unusedVariables false
set_option linter.unusedSimpArgs false
namespace Go.Proofs.YtbdlhhajblhmiaaDoor.Pure
open Go.RowKit Go.Proofs.YtbdlhhajblhmiaaDoor.QInsEncodes Go.Proofs.YtbdlhhajblhmiaaDoorW.PrintWords Go.Proofs.YtbdlhhajblhmiaaDoorW.PrintLast Go.Proofs.YtbdlhhajblhmiaaDoor.Bv Go.Proofs.YtbdlhhajblhmiaaDoor.Bw Go.Proofs.YtbdlhhajblhmiaaDoor.Ins

theorem awake_is : caponierlaw02_awake.f = some true := by decide +kernel
theorem refForm (k : Nat) (op : Int) : caponierref02_Form.f (k + 2) op = some (formF op) := by
  unfold caponierref02_Form.f formF
  by_cases h0 : op < 0
  · rw [if_pos h0, if_neg (by omega)]
    simp only [caponierref02_Form.j0, if_true]
  · rw [if_neg h0]
    by_cases h1 : 42 < op
    · rw [show decide (op > 42) = true from decide_eq_true h1, if_neg (by omega)]
      simp only [caponierref02_Form.j0, if_true]
    · rw [show decide (op > 42) = false from decide_eq_false h1, if_pos (by omega)]
      obtain ⟨x, rfl⟩ := Int.eq_ofNat_of_zero_le (show 0 ≤ op by omega)
      simp only [caponierref02_Form.j0, caponierref02_Form.j1, Bool.false_eq_true, if_false, Int.toNat_natCast, if_true]
      unfold fm
      by_cases a1 : x ≤ 15
      · rw [if_pos (show (x : Int) ≤ 15 by omega), if_pos a1]; rfl
      · rw [if_neg (show ¬ (x : Int) ≤ 15 by omega), if_neg a1]
        by_cases a2 : x ≤ 28
        · rw [if_pos (show (x : Int) ≤ 28 by omega), if_pos a2]; rfl
        · rw [if_neg (show ¬ (x : Int) ≤ 28 by omega), if_neg a2]
          by_cases a7 : x = 41
          · subst a7; rfl
          · rw [if_neg (show ¬ (((x : Int) == 41) = true) by simp; omega)]
            by_cases a3 : x ≤ 31
            · rw [if_pos (show (x : Int) ≤ 31 by omega), if_pos a3]; rfl
            · rw [if_neg (show ¬ (x : Int) ≤ 31 by omega), if_neg a3]
              by_cases a4 : x ≤ 37
              · rw [if_pos (show (x : Int) ≤ 37 by omega), if_pos a4]; rfl
              · rw [if_neg (show ¬ (x : Int) ≤ 37 by omega), if_neg a4]
                by_cases a5 : x ≤ 39
                · rw [if_pos (show (x : Int) ≤ 39 by omega), if_pos a5]; rfl
                · rw [if_neg (show ¬ (x : Int) ≤ 39 by omega), if_neg a5]
                  by_cases a6 : x = 40
                  · rw [if_pos (show (x : Int) = 40 by omega), if_pos a6]; rfl
                  · rw [if_neg (show ¬ (x : Int) = 40 by omega), if_neg a6, if_neg a7]; rfl
theorem refShift (x : Nat) : caponierref02_Shift.f (x : Int) = some (shf x) := by
  unfold caponierref02_Shift.f shf
  by_cases h : 22 ≤ x
  · rw [if_pos (show (x : Int) ≥ 22 by omega)]
    refine congrArg some ?_
    rw [decide_eq_decide]; omega
  · rw [if_neg (show ¬ (x : Int) ≥ 22 by omega), decide_eq_false (by omega)]
theorem tm_zero (m k : Int) : (Int.tmod m k = 0) ↔ m % k = 0 := by
  rw [← Int.dvd_iff_tmod_eq_zero, Int.dvd_iff_emod_eq_zero]
theorem may_reg {x : Nat} {d a b n : Int} : MayS (x : Int) d a b n ↔ x ≤ 42 ∧ regS d (fm x).d ∧ regS a (fm x).a ∧ regS b (fm x).b ∧ immS (fm x) (shf x) n :=
  ⟨fun m => ⟨by have := m.op1; omega, by simpa using m.rd, by simpa using m.r1, by simpa using m.r2, by simpa using m.imm⟩, fun ⟨h0, h1, h2, h3, h4⟩ => ⟨by omega, by omega, by simpa using h1, by simpa using h2, by simpa using h3, by simpa using h4⟩⟩
set_option maxHeartbeats 4000000 in
theorem refMay (k : Nat) (op d a b n : Int) (m : Bool) (hm : m = true ↔ MayS op d a b n) : caponierref02_May.f (k + 3) op d a b n = some m := by
  unfold caponierref02_May.f
  rw [refForm (k + 1) op, Option.bind_some]
  by_cases hop : 0 ≤ op ∧ op ≤ 42
  · obtain ⟨x, rfl⟩ := Int.eq_ofNat_of_zero_le hop.1
    have hx : x ≤ 42 := by omega
    rw [may_reg] at hm
    rw [formF_at hop.1 hop.2, Int.toNat_natCast]
    have sl := s_list (fm x)
    simp only [caponierref02_May.j0, caponierref02_May.j1, caponierref02_May.j2, sl, refShift, Option.bind_some]
    clear sl
    have hn : ∀ q : Bool, (q = true ↔ m = true) → some q = some m := fun q h => by rw [Bool.eq_iff_iff.2 h]
    have hsI : shf x = true → fm x = .I := shf_I x
    cases hs : shf x
    · cases hf : fm x <;> rw [hf, hs] at hm <;> simp [Fm.c, Fm.d, Fm.a, Fm.b, immS, regS, tm_zero] at hm ⊢
      all_goals
        clear hsI hf hs
        repeat' split
        all_goals
          refine hn _ ?_
          rw [hm]
          simp only [decide_eq_true_eq, beq_iff_eq, Bool.false_eq_true, tm_zero, false_iff]
          omega
    · have hf := hsI hs
      rw [hf, hs] at hm
      rw [hf]
      simp [Fm.c, Fm.d, Fm.a, Fm.b, immS, regS, tm_zero] at hm ⊢
      clear hsI hf hs
      repeat' split
      all_goals
        refine hn _ ?_
        rw [hm]
        simp only [decide_eq_true_eq, beq_iff_eq, Bool.false_eq_true, tm_zero, false_iff]
        omega
  · have e : m = false := Bool.eq_false_iff.2 (fun e => hop ⟨(hm.1 e).op0, (hm.1 e).op1⟩)
    rw [formF_no hop, e]
    rw [if_pos (by decide +kernel)]
    simp only [caponierref02_May.j0, if_true]
theorem bit_is (v : BitVec 64) {i : Int} (h0 : 0 ≤ i) (h1 : i < 64) : caponierref01_Bit.f (U v) i = some (((v.getLsbD i.toNat).toNat : Nat) : Int) := by
  unfold caponierref01_Bit.f
  rw [wrapu_in h0 (by omega), if_pos h0, shr_U, Int.tmod_eq_emod_of_nonneg (U_nonneg _)]
  congr 1
  unfold U
  rw [BitVec.toNat_ushiftRight, Nat.shiftRight_eq_div_pow, ← bit_of]
  rfl
/-- One more bit, as the loops of the reference take it. -/
theorem step_bit (T : BitVec 64) (j : Nat) : IntKind.u64.wrap (IntKind.u64.wrap (2 * ((T.toNat / 2 ^ (j + 1) : Nat) : Int)) + (((T.getLsbD j).toNat : Nat) : Int)) = ((T.toNat / 2 ^ j : Nat) : Int) := by
  rw [← bit_of]
  have e := acc T.toNat j
  have l := T.isLt
  have l1 : T.toNat / 2 ^ j ≤ T.toNat := Nat.div_le_self _ _
  rw [wrapu_in (n := 2 * _) (by omega) (by omega), wrapu_in (by omega) (by omega)]
  omega
theorem ref_may_yes {f n : Int} (h0 : 0 ≤ f) (h1 : 0 ≤ n) (h2 : f + n ≤ 64) : caponierref01_May.f f n = some true := by
  unfold caponierref01_May.f
  rw [if_pos h0, if_pos (by omega), if_pos h1, if_pos (by omega), wrap_in (by omega) (by omega), decide_eq_true (by omega)]
theorem ref_may_no {f n : Int} (h : ¬ (0 ≤ f ∧ 0 ≤ n ∧ f + n ≤ 64)) : caponierref01_May.f f n = some false := by
  unfold caponierref01_May.f
  by_cases h0 : f ≥ 0
  · rw [if_pos h0]
    by_cases h1 : f ≤ 64
    · rw [if_pos h1]
      by_cases h2 : n ≥ 0
      · rw [if_pos h2]
        by_cases h3 : n ≤ 64
        · rw [if_pos h3, wrap_in (by omega) (by omega), decide_eq_false (by omega)]
        · rw [if_neg h3]
      · rw [if_neg h2]
    · rw [if_neg h1]
  · rw [if_neg h0]
theorem ref_field_l (v : BitVec 64) (f n : Int) (h0 : 0 ≤ f) (h1 : 0 ≤ n) (h2 : f + n ≤ 64) (j : Nat) : (j : Int) ≤ n → ∀ k, j < k → caponierref01_Field.l0 k (U v) f (((fld v f.toNat n.toNat).toNat / 2 ^ j : Nat) : Int) (f + j - 1) = some (U (fld v f.toNat n.toNat), true) := by
  induction j with
  | zero =>
    intro _ k hk
    obtain ⟨k, rfl⟩ : ∃ m, k = m + 1 := ⟨k - 1, by omega⟩
    simp only [caponierref01_Field.l0]
    rw [if_neg (by omega)]
    simp only [Nat.pow_zero, Nat.div_one]
    rfl
  | succ j ih =>
    intro hj k hk
    obtain ⟨k, rfl⟩ : ∃ m, k = m + 1 := ⟨k - 1, by omega⟩
    have e0 : f + ((j + 1 : Nat) : Int) - 1 = f + (j : Int) := by omega
    simp only [caponierref01_Field.l0]
    rw [e0, if_pos (by omega), bit_is v (by omega) (by omega)]
    simp only [Option.bind_some]
    have ih' := ih (by omega) k (by omega)
    rw [wrap_in (n := f + (j : Int) - 1) (by omega) (by omega)]
    have st := step_bit (fld v f.toNat n.toNat) j
    rw [bit_fld v _ _ (by omega), decide_eq_true (by omega), Bool.true_and, show f.toNat + j = (f + (j : Int)).toNat by omega] at st
    rw [st]; exact ih'
theorem ref_field_yes (v : BitVec 64) {f n : Int} (h0 : 0 ≤ f) (h1 : 0 ≤ n) (h2 : f + n ≤ 64) {k : Nat} (hk : 67 ≤ k) : caponierref01_Field.f k (U v) f n = some (U (fld v f.toNat n.toNat), true) := by
  unfold caponierref01_Field.f
  rw [ref_may_yes h0 h1 h2]
  simp only [Option.bind_some, if_true]
  rw [wrap_in (n := f + n) (by omega) (by omega), wrap_in (by omega) (by omega)]
  have g := ref_field_l v f n h0 h1 h2 n.toNat (by omega) k (by omega)
  rw [Nat.div_eq_of_lt (by rw [fld_toNat _ _ _ (by omega)]; exact Nat.mod_lt _ (Nat.pow_pos (by decide))), Int.toNat_of_nonneg h1] at g
  exact g
theorem bit_l (v : Nat) (tt : Nat) (hv : v * 2 ^ tt < 18446744073709551616) (hto : tt ≤ 64) (j : Nat) : ∀ i : Nat, i + j = tt → ∀ k, j < k → caponierref02_bit.l0 k (tt : Int) ((v * 2 ^ i : Nat) : Int) (i : Int) = some ((v * 2 ^ tt : Nat) : Int) := by
  induction j with
  | zero =>
    intro i hi k hk
    obtain ⟨k, rfl⟩ : ∃ m, k = m + 1 := ⟨k - 1, by omega⟩
    obtain rfl : i = tt := by omega
    simp only [caponierref02_bit.l0]
    rw [if_neg (by omega)]
  | succ j ih =>
    intro i hi k hk
    obtain ⟨k, rfl⟩ : ∃ m, k = m + 1 := ⟨k - 1, by omega⟩
    simp only [caponierref02_bit.l0]
    have hp : v * 2 ^ (i + 1) ≤ v * 2 ^ tt := Nat.mul_le_mul_left _ (Nat.pow_le_pow_right (by decide) (by omega))
    have he : v * 2 ^ (i + 1) = v * 2 ^ i * 2 := by rw [Nat.pow_succ, Nat.mul_assoc]
    rw [if_pos (by omega), wrap_in (n := (i : Int) + 1) (by omega) (by omega), show ((v * 2 ^ i : Nat) : Int) * 2 = ((v * 2 ^ (i + 1) : Nat) : Int) by omega, wrapu_nat _ (by omega)]
    exact ih (i + 1) (by omega) k (by omega)
theorem refBit (z : BitVec 64) (f c tt : Nat) (h : f + c ≤ 64) (h2 : c + tt ≤ 64) (k : Nat) (hk : 67 ≤ k) : caponierref02_bit.f k (S z) (f : Int) (c : Int) (tt : Int) = some ((z.toNat / 2 ^ f % 2 ^ c * 2 ^ tt : Nat) : Int) := by
  unfold caponierref02_bit.f
  rw [wrapUS, ref_field_yes z (by omega) (by omega) (by omega) hk, Option.bind_some, Int.toNat_natCast, Int.toNat_natCast]
  dsimp only
  rw [U_fld z f c (by omega)]
  have hlt : z.toNat / 2 ^ f % 2 ^ c < 2 ^ c := Nat.mod_lt _ (Nat.pow_pos (by decide))
  have hb : z.toNat / 2 ^ f % 2 ^ c * 2 ^ tt < 18446744073709551616 := by
    have a1 : z.toNat / 2 ^ f % 2 ^ c * 2 ^ tt < 2 ^ c * 2 ^ tt := Nat.mul_lt_mul_of_pos_right hlt (Nat.pow_pos (by decide))
    rw [← Nat.pow_add] at a1
    exact Nat.lt_of_lt_of_le a1 (Nat.pow_le_pow_right (by decide) h2)
  have g := bit_l (z.toNat / 2 ^ f % 2 ^ c) tt hb (by omega) tt 0 (by omega) k (by omega)
  rw [Nat.pow_zero, Nat.mul_one] at g
  exact g
theorem refLow (x : Nat) (h : x ≤ 42) : caponierref02_low.f (x : Int) = some (lo x : Int) := by
  have g : ∀ n : Fin 43, caponierref02_low.f ((n.val : Nat) : Int) = some (lo n.val : Int) := by decide +kernel
  exact g ⟨x, by omega⟩
theorem refKind (x : Nat) (h : x ≤ 42) : caponierref02_Kind.f (x : Int) = some (kd x : Int) := by
  have g : ∀ n : Fin 43, caponierref02_Kind.f ((n.val : Nat) : Int) = some (kd n.val : Int) := by decide +kernel
  exact g ⟨x, by omega⟩
theorem refTop (k : Nat) (x : Nat) (h : x ≤ 42) (h2 : fm x = .R ∨ shf x = true) : caponierref02_Top.f (k + 1) (x : Int) = some (if shf x = true then ((2 * tp x : Nat) : Int) else (tp x : Int)) := by
  have g : ∀ n : Fin 43, (fm n.val = .R ∨ shf n.val = true) → caponierref02_Top.f 1 ((n.val : Nat) : Int) = some (if shf n.val = true then ((2 * tp n.val : Nat) : Int) else (tp n.val : Int)) := by decide +kernel
  have e : caponierref02_Top.f (k + 1) (x : Int) = caponierref02_Top.f 1 (x : Int) := by
    unfold caponierref02_Top.f
    simp only [caponierref02_Top.j0]
  rw [e]
  exact g ⟨x, by omega⟩ h2
theorem refBase (l d a b : Nat) (hl : l < 128) (hd : d < 32) (ha : a < 32) (hb : b < 32) :
    IntKind.u64.wrap ((IntKind.u64.wrap ((IntKind.u64.wrap ((l : Int) + (IntKind.u64.wrap ((IntKind.u64.wrap (d : Int)) * 128)))) + (IntKind.u64.wrap ((IntKind.u64.wrap (a : Int)) * 32768)))) + (IntKind.u64.wrap ((IntKind.u64.wrap (b : Int)) * 1048576))) = ((l + 128 * d + 32768 * a + 1048576 * b : Nat) : Int) := by
  rw [wrapu_in (n := (d : Int)) (by omega) (by omega), wrapu_in (n := (a : Int)) (by omega) (by omega), wrapu_in (n := (b : Int)) (by omega) (by omega), wrapu_in (n := (d : Int) * 128) (by omega) (by omega), wrapu_in (n := (a : Int) * 32768) (by omega) (by omega), wrapu_in (n := (b : Int) * 1048576) (by omega) (by omega)]
  rw [wrapu_in (n := (l : Int) + (d : Int) * 128) (by omega) (by omega), wrapu_in (n := (l : Int) + (d : Int) * 128 + (a : Int) * 32768) (by omega) (by omega), wrapu_in (by omega) (by omega)]
  omega
theorem refEnc_no (k : Nat) (op d a b n : Int) (m : ¬ MayS op d a b n) : caponierref02_Encode.f (k + 70) op d a b n = some (0, 1) := by
  unfold caponierref02_Encode.f
  rw [refMay (k + 67) op d a b n false ⟨fun h => (by cases h), fun h => absurd h m⟩, Option.bind_some, if_neg (by decide)]
set_option maxHeartbeats 4000000 in
theorem refEnc_yes (k : Nat) (op d a b n : Int) (m : MayS op d a b n) : caponierref02_Encode.f (k + 70) op d a b n = some (encS op.toNat d a b n, 0) := by
  have hM := refMay (k + 67) op d a b n true ⟨fun _ => m, fun _ => rfl⟩
  obtain ⟨x, rfl⟩ := Int.eq_ofNat_of_zero_le m.op0
  have hx : x ≤ 42 := by have := m.op1; omega
  have hrng := encS_range x d a b n m
  rw [may_reg] at m
  obtain ⟨_, ⟨d0, d1, d2⟩, ⟨a0, a1, a2⟩, ⟨b0, b1, b2⟩, hi⟩ := m
  obtain ⟨d, rfl⟩ := Int.eq_ofNat_of_zero_le d0
  obtain ⟨a, rfl⟩ := Int.eq_ofNat_of_zero_le a0
  obtain ⟨b, rfl⟩ := Int.eq_ofNat_of_zero_le b0
  have hl := lo_lt x
  have hk := kd_lt x
  have ht := tp_lt x
  have hn : -9223372036854775808 ≤ n ∧ n < 9223372036854775808 := by
    unfold immS at hi
    cases hf : fm x <;> rw [hf] at hi <;> dsimp only at hi
    · omega
    · split at hi <;> omega
    · omega
    · omega
    · omega
    · omega
    · omega
  obtain ⟨z, rfl⟩ : ∃ z : BitVec 64, n = S z := ⟨BitVec.ofInt 64 n, (S_of hn.1 hn.2).symm⟩
  clear hn
  have hz := z.isLt
  unfold caponierref02_Encode.f
  rw [hM, Option.bind_some, if_pos rfl, Int.toNat_natCast]
  by_cases h42 : x = 42
  · subst h42
    rw [if_pos (by decide)]
    rfl
  · rw [if_neg (by omega), refForm (k + 68) _, Option.bind_some, refLow x hx, Option.bind_some, formF_at (by omega) (by omega), Int.toNat_natCast]
    rw [refBase (lo x) d a b hl (by omega) (by omega) (by omega), s_list (fm x)]
    have hK := refKind x hx
    have kw : IntKind.u64.wrap ((kd x : Int) * 4096) = (kd x : Int) * 4096 := wrapu_in (by omega) (by omega)
    have B := fun (f c tt : Nat) h h2 => refBit z f c tt h h2 (k + 68) (by omega)
    unfold encS at hrng ⊢
    have e42 : fm x ≠ .E := by
      have g : ∀ n : Fin 43, n.val ≠ 42 → fm n.val ≠ .E := by decide +kernel
      exact g ⟨x, by omega⟩ h42
    cases hf : fm x <;> rw [hf] at d2 a2 b2 hi hrng e42 <;> simp only [Fm.d, Fm.a, Fm.b, immS] at d2 a2 b2 hi hrng ⊢
    · have qR : ([Fm.R.c] = ([82] : List UInt8)) = True := eq_true (by decide)
      have qI : ([Fm.R.c] = ([73] : List UInt8)) = False := eq_false (by decide)
      have qS : ([Fm.R.c] = ([83] : List UInt8)) = False := eq_false (by decide)
      have qB : ([Fm.R.c] = ([66] : List UInt8)) = False := eq_false (by decide)
      have qU : ([Fm.R.c] = ([85] : List UInt8)) = False := eq_false (by decide)
      have qJ : ([Fm.R.c] = ([74] : List UInt8)) = False := eq_false (by decide)
      have qn : ([Fm.R.c] != ([74] : List UInt8)) = true := by decide
      have hT := refTop (k + 67) x hx (Or.inl hf)
      have hs : shf x = false := by cases hs : shf x; rfl; rw [shf_I x hs] at hf; cases hf
      rw [hs, if_neg (by decide)] at hT
      simp only [qR, qI, qS, qB, qU, qJ, qn, hT, caponierref02_Encode.j0, caponierref02_Encode.j1, hK, kw, Option.bind_some, s_list, if_true, if_false, Bool.false_eq_true]
      rw [wrapu_in (n := ((lo x + 128 * d + 32768 * a + 1048576 * b : Nat) : Int) + (kd x : Int) * 4096) (by omega) (by omega), wrapu_in (n := (tp x : Int) * 33554432) (by omega) (by omega), wrapu_in (n := ((lo x + 128 * d + 32768 * a + 1048576 * b : Nat) : Int) + (kd x : Int) * 4096 + (tp x : Int) * 33554432) (by omega) (by omega)]
      refine congrArg some (Prod.ext ?_ rfl)
      show _ % _ = _
      omega
    · cases hs : shf x
      · have b3 : b = 0 := by have := b2 trivial; omega
        subst b3
        have qR : ([Fm.I.c] = ([82] : List UInt8)) = False := eq_false (by decide)
        have qI : ([Fm.I.c] = ([73] : List UInt8)) = True := eq_true (by decide)
        have qS : ([Fm.I.c] = ([83] : List UInt8)) = False := eq_false (by decide)
        have qB : ([Fm.I.c] = ([66] : List UInt8)) = False := eq_false (by decide)
        have qU : ([Fm.I.c] = ([85] : List UInt8)) = False := eq_false (by decide)
        have qJ : ([Fm.I.c] = ([74] : List UInt8)) = False := eq_false (by decide)
        have qn : ([Fm.I.c] != ([74] : List UInt8)) = true := by decide
        have hS := refShift x
        rw [hs] at hS
        simp only [hs, Bool.false_eq_true, if_false] at hi hrng ⊢
        have B0 : caponierref02_bit.f (k + 68) (S z) 0 12 20 = some ((z.toNat % 4096 * 1048576 : Nat) : Int) := (by have g := refBit z 0 12 20 (by decide) (by decide) (k + 68) (by omega); rw [Nat.pow_zero, Nat.div_one] at g; exact g)
        rw [S_1_4096]
        have y0 : z.toNat % 4096 < 4096 := Nat.mod_lt _ (by decide)
        clear hi hrng B hz
        generalize z.toNat % 4096 = u0 at *
        simp only [qR, qI, qS, qB, qU, qJ, qn, hS, B0, caponierref02_Encode.j0, caponierref02_Encode.j1, hK, kw, Option.bind_some, s_list, if_true, if_false, Bool.false_eq_true]
        rw [wrapu_in (n := ((lo x + 128 * d + 32768 * a + 1048576 * 0 : Nat) : Int) + (kd x : Int) * 4096) (by omega) (by omega), wrapu_in (n := ((lo x + 128 * d + 32768 * a + 1048576 * 0 : Nat) : Int) + (kd x : Int) * 4096 + ((u0 * 1048576 : Nat) : Int)) (by omega) (by omega)]
        refine congrArg some (Prod.ext ?_ rfl)
        show _ % _ = _
        omega
      · have b3 : b = 0 := by have := b2 trivial; omega
        subst b3
        have qR : ([Fm.I.c] = ([82] : List UInt8)) = False := eq_false (by decide)
        have qI : ([Fm.I.c] = ([73] : List UInt8)) = True := eq_true (by decide)
        have qS : ([Fm.I.c] = ([83] : List UInt8)) = False := eq_false (by decide)
        have qB : ([Fm.I.c] = ([66] : List UInt8)) = False := eq_false (by decide)
        have qU : ([Fm.I.c] = ([85] : List UInt8)) = False := eq_false (by decide)
        have qJ : ([Fm.I.c] = ([74] : List UInt8)) = False := eq_false (by decide)
        have qn : ([Fm.I.c] != ([74] : List UInt8)) = true := by decide
        have hT := refTop (k + 67) x hx (Or.inr hs)
        rw [hs, if_pos rfl] at hT
        have hS := refShift x
        rw [hs] at hS
        simp only [hs, if_true] at hi hrng ⊢
        have hSz := S_nat z
        have hzn : S z = (z.toNat : Int) := by split at hSz <;> omega
        have hz2 : z.toNat < 64 := by omega
        have B0 : caponierref02_bit.f (k + 68) (S z) 0 12 20 = some ((z.toNat * 1048576 : Nat) : Int) := by
          have g := refBit z 0 12 20 (by decide) (by decide) (k + 68) (by omega)
          have e : z.toNat / 2 ^ 0 % 2 ^ 12 * 2 ^ 20 = z.toNat * 1048576 := by rw [Nat.pow_zero, Nat.div_one, Nat.mod_eq_of_lt (by omega)]
          rw [e] at g
          exact g
        simp only [qR, qI, qS, qB, qU, qJ, qn, B0, hT, hS, caponierref02_Encode.j0, caponierref02_Encode.j1, hK, kw, Option.bind_some, s_list, if_true, if_false, Bool.false_eq_true]
        rw [wrapu_in (n := ((lo x + 128 * d + 32768 * a + 1048576 * 0 : Nat) : Int) + (kd x : Int) * 4096) (by omega) (by omega), wrapu_in (n := ((lo x + 128 * d + 32768 * a + 1048576 * 0 : Nat) : Int) + (kd x : Int) * 4096 + ((z.toNat * 1048576 : Nat) : Int)) (by omega) (by omega), wrapu_in (n := ((2 * tp x : Nat) : Int) * 33554432) (by omega) (by omega), wrapu_in (n := ((lo x + 128 * d + 32768 * a + 1048576 * 0 : Nat) : Int) + (kd x : Int) * 4096 + ((z.toNat * 1048576 : Nat) : Int) + ((2 * tp x : Nat) : Int) * 33554432) (by omega) (by omega)]
        rw [hzn]
        refine congrArg some (Prod.ext ?_ rfl)
        show _ % _ = _
        omega
    · have d3 : d = 0 := by have := d2 trivial; omega
      subst d3
      have qR : ([Fm.S.c] = ([82] : List UInt8)) = False := eq_false (by decide)
      have qI : ([Fm.S.c] = ([73] : List UInt8)) = False := eq_false (by decide)
      have qS : ([Fm.S.c] = ([83] : List UInt8)) = True := eq_true (by decide)
      have qB : ([Fm.S.c] = ([66] : List UInt8)) = False := eq_false (by decide)
      have qU : ([Fm.S.c] = ([85] : List UInt8)) = False := eq_false (by decide)
      have qJ : ([Fm.S.c] = ([74] : List UInt8)) = False := eq_false (by decide)
      have qn : ([Fm.S.c] != ([74] : List UInt8)) = true := by decide
      have B0 : caponierref02_bit.f (k + 68) (S z) 0 5 7 = some ((z.toNat % 32 * 128 : Nat) : Int) := (by have g := refBit z 0 5 7 (by decide) (by decide) (k + 68) (by omega); rw [Nat.pow_zero, Nat.div_one] at g; exact g)
      rw [S_1_32]
      have y0 : z.toNat % 32 < 32 := Nat.mod_lt _ (by decide)
      have B1 : caponierref02_bit.f (k + 68) (S z) 5 7 25 = some ((z.toNat / 32 % 128 * 33554432 : Nat) : Int) := refBit z 5 7 25 (by decide) (by decide) (k + 68) (by omega)
      rw [S_32_128]
      have y1 : z.toNat / 32 % 128 < 128 := Nat.mod_lt _ (by decide)
      clear hi hrng B hz
      generalize z.toNat % 32 = u0 at *
      generalize z.toNat / 32 % 128 = u1 at *
      simp only [qR, qI, qS, qB, qU, qJ, qn, B0, B1, caponierref02_Encode.j0, caponierref02_Encode.j1, hK, kw, Option.bind_some, s_list, if_true, if_false, Bool.false_eq_true]
      rw [wrapu_in (n := ((lo x + 128 * 0 + 32768 * a + 1048576 * b : Nat) : Int) + (kd x : Int) * 4096) (by omega) (by omega), wrapu_in (n := ((lo x + 128 * 0 + 32768 * a + 1048576 * b : Nat) : Int) + (kd x : Int) * 4096 + ((u0 * 128 : Nat) : Int)) (by omega) (by omega), wrapu_in (n := ((lo x + 128 * 0 + 32768 * a + 1048576 * b : Nat) : Int) + (kd x : Int) * 4096 + ((u0 * 128 : Nat) : Int) + ((u1 * 33554432 : Nat) : Int)) (by omega) (by omega)]
      refine congrArg some (Prod.ext ?_ rfl)
      show _ % _ = _
      omega
    · have d3 : d = 0 := by have := d2 trivial; omega
      subst d3
      have qR : ([Fm.B.c] = ([82] : List UInt8)) = False := eq_false (by decide)
      have qI : ([Fm.B.c] = ([73] : List UInt8)) = False := eq_false (by decide)
      have qS : ([Fm.B.c] = ([83] : List UInt8)) = False := eq_false (by decide)
      have qB : ([Fm.B.c] = ([66] : List UInt8)) = True := eq_true (by decide)
      have qU : ([Fm.B.c] = ([85] : List UInt8)) = False := eq_false (by decide)
      have qJ : ([Fm.B.c] = ([74] : List UInt8)) = False := eq_false (by decide)
      have qn : ([Fm.B.c] != ([74] : List UInt8)) = true := by decide
      have B0 : caponierref02_bit.f (k + 68) (S z) 1 4 8 = some ((z.toNat / 2 % 16 * 256 : Nat) : Int) := refBit z 1 4 8 (by decide) (by decide) (k + 68) (by omega)
      rw [S_2_16]
      have y0 : z.toNat / 2 % 16 < 16 := Nat.mod_lt _ (by decide)
      have B1 : caponierref02_bit.f (k + 68) (S z) 5 6 25 = some ((z.toNat / 32 % 64 * 33554432 : Nat) : Int) := refBit z 5 6 25 (by decide) (by decide) (k + 68) (by omega)
      rw [S_32_64]
      have y1 : z.toNat / 32 % 64 < 64 := Nat.mod_lt _ (by decide)
      have B2 : caponierref02_bit.f (k + 68) (S z) 11 1 7 = some ((z.toNat / 2048 % 2 * 128 : Nat) : Int) := refBit z 11 1 7 (by decide) (by decide) (k + 68) (by omega)
      rw [S_2048_2]
      have y2 : z.toNat / 2048 % 2 < 2 := Nat.mod_lt _ (by decide)
      have B3 : caponierref02_bit.f (k + 68) (S z) 12 1 31 = some ((z.toNat / 4096 % 2 * 2147483648 : Nat) : Int) := refBit z 12 1 31 (by decide) (by decide) (k + 68) (by omega)
      rw [S_4096_2]
      have y3 : z.toNat / 4096 % 2 < 2 := Nat.mod_lt _ (by decide)
      clear hi hrng B hz
      generalize z.toNat / 2 % 16 = u0 at *
      generalize z.toNat / 32 % 64 = u1 at *
      generalize z.toNat / 2048 % 2 = u2 at *
      generalize z.toNat / 4096 % 2 = u3 at *
      simp only [qR, qI, qS, qB, qU, qJ, qn, B0, B1, B2, B3, caponierref02_Encode.j0, caponierref02_Encode.j1, hK, kw, Option.bind_some, s_list, if_true, if_false, Bool.false_eq_true]
      rw [wrapu_in (n := ((lo x + 128 * 0 + 32768 * a + 1048576 * b : Nat) : Int) + (kd x : Int) * 4096) (by omega) (by omega), wrapu_in (n := ((lo x + 128 * 0 + 32768 * a + 1048576 * b : Nat) : Int) + (kd x : Int) * 4096 + ((u0 * 256 : Nat) : Int)) (by omega) (by omega), wrapu_in (n := ((lo x + 128 * 0 + 32768 * a + 1048576 * b : Nat) : Int) + (kd x : Int) * 4096 + ((u0 * 256 : Nat) : Int) + ((u1 * 33554432 : Nat) : Int)) (by omega) (by omega), wrapu_in (n := ((lo x + 128 * 0 + 32768 * a + 1048576 * b : Nat) : Int) + (kd x : Int) * 4096 + ((u0 * 256 : Nat) : Int) + ((u1 * 33554432 : Nat) : Int) + ((u2 * 128 : Nat) : Int)) (by omega) (by omega), wrapu_in (n := ((lo x + 128 * 0 + 32768 * a + 1048576 * b : Nat) : Int) + (kd x : Int) * 4096 + ((u0 * 256 : Nat) : Int) + ((u1 * 33554432 : Nat) : Int) + ((u2 * 128 : Nat) : Int) + ((u3 * 2147483648 : Nat) : Int)) (by omega) (by omega)]
      refine congrArg some (Prod.ext ?_ rfl)
      show _ % _ = _
      omega
    · have a3 : a = 0 := by have := a2 trivial; omega
      subst a3
      have b3 : b = 0 := by have := b2 trivial; omega
      subst b3
      have qR : ([Fm.U.c] = ([82] : List UInt8)) = False := eq_false (by decide)
      have qI : ([Fm.U.c] = ([73] : List UInt8)) = False := eq_false (by decide)
      have qS : ([Fm.U.c] = ([83] : List UInt8)) = False := eq_false (by decide)
      have qB : ([Fm.U.c] = ([66] : List UInt8)) = False := eq_false (by decide)
      have qU : ([Fm.U.c] = ([85] : List UInt8)) = True := eq_true (by decide)
      have qJ : ([Fm.U.c] = ([74] : List UInt8)) = False := eq_false (by decide)
      have qn : ([Fm.U.c] != ([74] : List UInt8)) = true := by decide
      have B0 : caponierref02_bit.f (k + 68) (S z) 12 20 12 = some ((z.toNat / 4096 % 1048576 * 4096 : Nat) : Int) := refBit z 12 20 12 (by decide) (by decide) (k + 68) (by omega)
      rw [S_4096_1048576]
      have y0 : z.toNat / 4096 % 1048576 < 1048576 := Nat.mod_lt _ (by decide)
      clear hi hrng B hz
      generalize z.toNat / 4096 % 1048576 = u0 at *
      simp only [qR, qI, qS, qB, qU, qJ, qn, B0, caponierref02_Encode.j0, caponierref02_Encode.j1, hK, kw, Option.bind_some, s_list, if_true, if_false, Bool.false_eq_true]
      rw [wrapu_in (n := ((lo x + 128 * d + 32768 * 0 + 1048576 * 0 : Nat) : Int) + ((u0 * 4096 : Nat) : Int)) (by omega) (by omega)]
      refine congrArg some (Prod.ext ?_ rfl)
      show _ % _ = _
      omega
    · have a3 : a = 0 := by have := a2 trivial; omega
      subst a3
      have b3 : b = 0 := by have := b2 trivial; omega
      subst b3
      have qR : ([Fm.J.c] = ([82] : List UInt8)) = False := eq_false (by decide)
      have qI : ([Fm.J.c] = ([73] : List UInt8)) = False := eq_false (by decide)
      have qS : ([Fm.J.c] = ([83] : List UInt8)) = False := eq_false (by decide)
      have qB : ([Fm.J.c] = ([66] : List UInt8)) = False := eq_false (by decide)
      have qU : ([Fm.J.c] = ([85] : List UInt8)) = False := eq_false (by decide)
      have qJ : ([Fm.J.c] = ([74] : List UInt8)) = True := eq_true (by decide)
      have qn : ([Fm.J.c] != ([74] : List UInt8)) = false := by decide
      have B0 : caponierref02_bit.f (k + 68) (S z) 1 10 21 = some ((z.toNat / 2 % 1024 * 2097152 : Nat) : Int) := refBit z 1 10 21 (by decide) (by decide) (k + 68) (by omega)
      rw [S_2_1024]
      have y0 : z.toNat / 2 % 1024 < 1024 := Nat.mod_lt _ (by decide)
      have B1 : caponierref02_bit.f (k + 68) (S z) 11 1 20 = some ((z.toNat / 2048 % 2 * 1048576 : Nat) : Int) := refBit z 11 1 20 (by decide) (by decide) (k + 68) (by omega)
      rw [S_2048_2]
      have y1 : z.toNat / 2048 % 2 < 2 := Nat.mod_lt _ (by decide)
      have B2 : caponierref02_bit.f (k + 68) (S z) 12 8 12 = some ((z.toNat / 4096 % 256 * 4096 : Nat) : Int) := refBit z 12 8 12 (by decide) (by decide) (k + 68) (by omega)
      rw [S_4096_256]
      have y2 : z.toNat / 4096 % 256 < 256 := Nat.mod_lt _ (by decide)
      have B3 : caponierref02_bit.f (k + 68) (S z) 20 1 31 = some ((z.toNat / 1048576 % 2 * 2147483648 : Nat) : Int) := refBit z 20 1 31 (by decide) (by decide) (k + 68) (by omega)
      rw [S_1048576_2]
      have y3 : z.toNat / 1048576 % 2 < 2 := Nat.mod_lt _ (by decide)
      clear hi hrng B hz
      generalize z.toNat / 2 % 1024 = u0 at *
      generalize z.toNat / 2048 % 2 = u1 at *
      generalize z.toNat / 4096 % 256 = u2 at *
      generalize z.toNat / 1048576 % 2 = u3 at *
      simp only [qR, qI, qS, qB, qU, qJ, qn, B0, B1, B2, B3, caponierref02_Encode.j0, caponierref02_Encode.j1, hK, kw, Option.bind_some, s_list, if_true, if_false, Bool.false_eq_true]
      rw [wrapu_in (n := ((lo x + 128 * d + 32768 * 0 + 1048576 * 0 : Nat) : Int) + ((u0 * 2097152 : Nat) : Int)) (by omega) (by omega), wrapu_in (n := ((lo x + 128 * d + 32768 * 0 + 1048576 * 0 : Nat) : Int) + ((u0 * 2097152 : Nat) : Int) + ((u1 * 1048576 : Nat) : Int)) (by omega) (by omega), wrapu_in (n := ((lo x + 128 * d + 32768 * 0 + 1048576 * 0 : Nat) : Int) + ((u0 * 2097152 : Nat) : Int) + ((u1 * 1048576 : Nat) : Int) + ((u2 * 4096 : Nat) : Int)) (by omega) (by omega), wrapu_in (n := ((lo x + 128 * d + 32768 * 0 + 1048576 * 0 : Nat) : Int) + ((u0 * 2097152 : Nat) : Int) + ((u1 * 1048576 : Nat) : Int) + ((u2 * 4096 : Nat) : Int) + ((u3 * 2147483648 : Nat) : Int)) (by omega) (by omega)]
      refine congrArg some (Prod.ext ?_ rfl)
      show _ % _ = _
      omega
    · exact absurd rfl e42
theorem InsEncodes (op d a b n : Int) (h0 : (Lit.int .i64 op).wf = true) (h1 : (Lit.int .i64 d).wf = true) (h2 : (Lit.int .i64 a).wf = true) (h3 : (Lit.int .i64 b).wf = true) (h4 : (Lit.int .i64 n).wf = true) :
    ∃ k, caponierlaw02_InsEncodes.f k op d a b n = some true := by
  refine ⟨70, ?_⟩
  have ee : ins_Encode.f op d a b n = encO op d a b n := rfl
  have em : ins_May.f op d a b n = mayO op d a b n := rfl
  have ef : ins_Form.f op = some (formF op) := rfl
  have ed : ∀ w, ins_Decode.f w = decO w := fun _ => rfl
  have rf := refForm 68 op
  have tt : ∀ l : List UInt8, (l != l) = false := fun l => by simp
  unfold caponierlaw02_InsEncodes.f
  rw [awake_is, Option.bind_some, if_pos rfl, ee, em, ef]
  by_cases m : MayS op d a b n
  · have re := refEnc_yes 0 op d a b n m
    have rm := refMay 67 op d a b n true ⟨fun _ => m, fun _ => rfl⟩
    rw [encO_yes h4 m, mayO_yes h4 m, re, rm]
    simp only [Option.bind_some, if_true, rf]
    rw [if_neg (by decide), tt]
    simp only [caponierlaw02_InsEncodes.j0, Bool.false_eq_true, if_false, if_true, ed, decO_yes m rfl, Option.bind_some]
    simp
  · have re := refEnc_no 0 op d a b n m
    have rm := refMay 67 op d a b n false ⟨fun h => (by cases h), fun h => absurd h m⟩
    rw [encO_no h4 m, mayO_no h4 m, re, rm]
    simp only [Option.bind_some, if_true, rf]
    rw [if_neg (by decide), tt]
    simp only [caponierlaw02_InsEncodes.j0, Bool.false_eq_true, if_false]
    rw [if_neg (by decide)]
end Go.Proofs.YtbdlhhajblhmiaaDoor.Pure
