/- The plain law of InsDecodes. No condition. -/
import Derived.Test.YtbdlhhajblhmiaaDoorQInsDecodesx8
import Derived.Test.YtbdlhhajblhmiaaDoorInsR
set_option linter.unusedVariables false
set_option linter.unusedSimpArgs false
namespace Go.Proofs.YtbdlhhajblhmiaaDoor.Pure
open Go.RowKit Go.Proofs.YtbdlhhajblhmiaaDoor.QInsDecodes Go.Proofs.YtbdlhhajblhmiaaDoorW.PrintWords Go.Proofs.YtbdlhhajblhmiaaDoorW.PrintLast Go.Proofs.YtbdlhhajblhmiaaDoor.Bv Go.Proofs.YtbdlhhajblhmiaaDoor.Bw Go.Proofs.YtbdlhhajblhmiaaDoor.Ins

theorem awake_is : caponierlaw02_awake.f = some true := by decide +kernel
theorem refForm (k : Nat) (op : Int) : caponierref02_Form.f (k + 2) op = some (formF op) := by
  unfold caponierref02_Form.f formF
  by_cases h0 : op < 0
  · rw [if_pos h0, if_neg (by omega)]
    simp only [caponierref02_Form.j0, if_true]
  · rw [if_neg h0]
    by_cases h1 : 42 < op
    · rw [show decide (op > 42) = true from decide_eq_true h1, if_neg (by omega)]
      simp only [caponierref02_Form.j0, if_true]
    · rw [show decide (op > 42) = false from decide_eq_false h1, if_pos (by omega)]
      obtain ⟨x, rfl⟩ := Int.eq_ofNat_of_zero_le (show 0 ≤ op by omega)
      simp only [caponierref02_Form.j0, caponierref02_Form.j1, Bool.false_eq_true, if_false, Int.toNat_natCast, if_true]
      unfold fm
      by_cases a1 : x ≤ 15
      · rw [if_pos (show (x : Int) ≤ 15 by omega), if_pos a1]; rfl
      · rw [if_neg (show ¬ (x : Int) ≤ 15 by omega), if_neg a1]
        by_cases a2 : x ≤ 28
        · rw [if_pos (show (x : Int) ≤ 28 by omega), if_pos a2]; rfl
        · rw [if_neg (show ¬ (x : Int) ≤ 28 by omega), if_neg a2]
          by_cases a7 : x = 41
          · subst a7; rfl
          · rw [if_neg (show ¬ (((x : Int) == 41) = true) by simp; omega)]
            by_cases a3 : x ≤ 31
            · rw [if_pos (show (x : Int) ≤ 31 by omega), if_pos a3]; rfl
            · rw [if_neg (show ¬ (x : Int) ≤ 31 by omega), if_neg a3]
              by_cases a4 : x ≤ 37
              · rw [if_pos (show (x : Int) ≤ 37 by omega), if_pos a4]; rfl
              · rw [if_neg (show ¬ (x : Int) ≤ 37 by omega), if_neg a4]
                by_cases a5 : x ≤ 39
                · rw [if_pos (show (x : Int) ≤ 39 by omega), if_pos a5]; rfl
                · rw [if_neg (show ¬ (x : Int) ≤ 39 by omega), if_neg a5]
                  by_cases a6 : x = 40
                  · rw [if_pos (show (x : Int) = 40 by omega), if_pos a6]; rfl
                  · rw [if_neg (show ¬ (x : Int) = 40 by omega), if_neg a6, if_neg a7]; rfl
theorem refShift (x : Nat) : caponierref02_Shift.f (x : Int) = some (shf x) := by
  unfold caponierref02_Shift.f shf
  by_cases h : 22 ≤ x
  · rw [if_pos (show (x : Int) ≥ 22 by omega)]
    refine congrArg some ?_
    rw [decide_eq_decide]; omega
  · rw [if_neg (show ¬ (x : Int) ≥ 22 by omega), decide_eq_false (by omega)]
theorem tm_zero (m k : Int) : (Int.tmod m k = 0) ↔ m % k = 0 := by
  rw [← Int.dvd_iff_tmod_eq_zero, Int.dvd_iff_emod_eq_zero]
theorem may_reg {x : Nat} {d a b n : Int} : MayS (x : Int) d a b n ↔ x ≤ 42 ∧ regS d (fm x).d ∧ regS a (fm x).a ∧ regS b (fm x).b ∧ immS (fm x) (shf x) n :=
  ⟨fun m => ⟨by have := m.op1; omega, by simpa using m.rd, by simpa using m.r1, by simpa using m.r2, by simpa using m.imm⟩, fun ⟨h0, h1, h2, h3, h4⟩ => ⟨by omega, by omega, by simpa using h1, by simpa using h2, by simpa using h3, by simpa using h4⟩⟩
set_option maxHeartbeats 4000000 in
theorem refMay (k : Nat) (op d a b n : Int) (m : Bool) (hm : m = true ↔ MayS op d a b n) : caponierref02_May.f (k + 3) op d a b n = some m := by
  unfold caponierref02_May.f
  rw [refForm (k + 1) op, Option.bind_some]
  by_cases hop : 0 ≤ op ∧ op ≤ 42
  · obtain ⟨x, rfl⟩ := Int.eq_ofNat_of_zero_le hop.1
    have hx : x ≤ 42 := by omega
    rw [may_reg] at hm
    rw [formF_at hop.1 hop.2, Int.toNat_natCast]
    have sl := s_list (fm x)
    simp only [caponierref02_May.j0, caponierref02_May.j1, caponierref02_May.j2, sl, refShift, Option.bind_some]
    clear sl
    have hn : ∀ q : Bool, (q = true ↔ m = true) → some q = some m := fun q h => by rw [Bool.eq_iff_iff.2 h]
    have hsI : shf x = true → fm x = .I := shf_I x
    cases hs : shf x
    · cases hf : fm x <;> rw [hf, hs] at hm <;> simp [Fm.c, Fm.d, Fm.a, Fm.b, immS, regS, tm_zero] at hm ⊢
      all_goals
        clear hsI hf hs
        repeat' split
        all_goals
          refine hn _ ?_
          rw [hm]
          simp only [decide_eq_true_eq, beq_iff_eq, Bool.false_eq_true, tm_zero, false_iff]
          omega
    · have hf := hsI hs
      rw [hf, hs] at hm
      rw [hf]
      simp [Fm.c, Fm.d, Fm.a, Fm.b, immS, regS, tm_zero] at hm ⊢
      clear hsI hf hs
      repeat' split
      all_goals
        refine hn _ ?_
        rw [hm]
        simp only [decide_eq_true_eq, beq_iff_eq, Bool.false_eq_true, tm_zero, false_iff]
        omega
  · have e : m = false := Bool.eq_false_iff.2 (fun e => hop ⟨(hm.1 e).op0, (hm.1 e).op1⟩)
    rw [formF_no hop, e]
    rw [if_pos (by decide +kernel)]
    simp only [caponierref02_May.j0, if_true]
theorem bit_is (v : BitVec 64) {i : Int} (h0 : 0 ≤ i) (h1 : i < 64) : caponierref01_Bit.f (U v) i = some (((v.getLsbD i.toNat).toNat : Nat) : Int) := by
  unfold caponierref01_Bit.f
  rw [wrapu_in h0 (by omega), if_pos h0, shr_U, Int.tmod_eq_emod_of_nonneg (U_nonneg _)]
  congr 1
  unfold U
  rw [BitVec.toNat_ushiftRight, Nat.shiftRight_eq_div_pow, ← bit_of]
  rfl
/-- One more bit, as the loops of the reference take it. -/
theorem step_bit (T : BitVec 64) (j : Nat) : IntKind.u64.wrap (IntKind.u64.wrap (2 * ((T.toNat / 2 ^ (j + 1) : Nat) : Int)) + (((T.getLsbD j).toNat : Nat) : Int)) = ((T.toNat / 2 ^ j : Nat) : Int) := by
  rw [← bit_of]
  have e := acc T.toNat j
  have l := T.isLt
  have l1 : T.toNat / 2 ^ j ≤ T.toNat := Nat.div_le_self _ _
  rw [wrapu_in (n := 2 * _) (by omega) (by omega), wrapu_in (by omega) (by omega)]
  omega
theorem ref_may_yes {f n : Int} (h0 : 0 ≤ f) (h1 : 0 ≤ n) (h2 : f + n ≤ 64) : caponierref01_May.f f n = some true := by
  unfold caponierref01_May.f
  rw [if_pos h0, if_pos (by omega), if_pos h1, if_pos (by omega), wrap_in (by omega) (by omega), decide_eq_true (by omega)]
theorem ref_may_no {f n : Int} (h : ¬ (0 ≤ f ∧ 0 ≤ n ∧ f + n ≤ 64)) : caponierref01_May.f f n = some false := by
  unfold caponierref01_May.f
  by_cases h0 : f ≥ 0
  · rw [if_pos h0]
    by_cases h1 : f ≤ 64
    · rw [if_pos h1]
      by_cases h2 : n ≥ 0
      · rw [if_pos h2]
        by_cases h3 : n ≤ 64
        · rw [if_pos h3, wrap_in (by omega) (by omega), decide_eq_false (by omega)]
        · rw [if_neg h3]
      · rw [if_neg h2]
    · rw [if_neg h1]
  · rw [if_neg h0]
theorem ref_field_l (v : BitVec 64) (f n : Int) (h0 : 0 ≤ f) (h1 : 0 ≤ n) (h2 : f + n ≤ 64) (j : Nat) : (j : Int) ≤ n → ∀ k, j < k → caponierref01_Field.l0 k (U v) f (((fld v f.toNat n.toNat).toNat / 2 ^ j : Nat) : Int) (f + j - 1) = some (U (fld v f.toNat n.toNat), true) := by
  induction j with
  | zero =>
    intro _ k hk
    obtain ⟨k, rfl⟩ : ∃ m, k = m + 1 := ⟨k - 1, by omega⟩
    simp only [caponierref01_Field.l0]
    rw [if_neg (by omega)]
    simp only [Nat.pow_zero, Nat.div_one]
    rfl
  | succ j ih =>
    intro hj k hk
    obtain ⟨k, rfl⟩ : ∃ m, k = m + 1 := ⟨k - 1, by omega⟩
    have e0 : f + ((j + 1 : Nat) : Int) - 1 = f + (j : Int) := by omega
    simp only [caponierref01_Field.l0]
    rw [e0, if_pos (by omega), bit_is v (by omega) (by omega)]
    simp only [Option.bind_some]
    have ih' := ih (by omega) k (by omega)
    rw [wrap_in (n := f + (j : Int) - 1) (by omega) (by omega)]
    have st := step_bit (fld v f.toNat n.toNat) j
    rw [bit_fld v _ _ (by omega), decide_eq_true (by omega), Bool.true_and, show f.toNat + j = (f + (j : Int)).toNat by omega] at st
    rw [st]; exact ih'
theorem ref_field_yes (v : BitVec 64) {f n : Int} (h0 : 0 ≤ f) (h1 : 0 ≤ n) (h2 : f + n ≤ 64) {k : Nat} (hk : 67 ≤ k) : caponierref01_Field.f k (U v) f n = some (U (fld v f.toNat n.toNat), true) := by
  unfold caponierref01_Field.f
  rw [ref_may_yes h0 h1 h2]
  simp only [Option.bind_some, if_true]
  rw [wrap_in (n := f + n) (by omega) (by omega), wrap_in (by omega) (by omega)]
  have g := ref_field_l v f n h0 h1 h2 n.toNat (by omega) k (by omega)
  rw [Nat.div_eq_of_lt (by rw [fld_toNat _ _ _ (by omega)]; exact Nat.mod_lt _ (Nat.pow_pos (by decide))), Int.toNat_of_nonneg h1] at g
  exact g
theorem bit_l (v : Nat) (tt : Nat) (hv : v * 2 ^ tt < 18446744073709551616) (hto : tt ≤ 64) (j : Nat) : ∀ i : Nat, i + j = tt → ∀ k, j < k → caponierref02_bit.l0 k (tt : Int) ((v * 2 ^ i : Nat) : Int) (i : Int) = some ((v * 2 ^ tt : Nat) : Int) := by
  induction j with
  | zero =>
    intro i hi k hk
    obtain ⟨k, rfl⟩ : ∃ m, k = m + 1 := ⟨k - 1, by omega⟩
    obtain rfl : i = tt := by omega
    simp only [caponierref02_bit.l0]
    rw [if_neg (by omega)]
  | succ j ih =>
    intro i hi k hk
    obtain ⟨k, rfl⟩ : ∃ m, k = m + 1 := ⟨k - 1, by omega⟩
    simp only [caponierref02_bit.l0]
    have hp : v * 2 ^ (i + 1) ≤ v * 2 ^ tt := Nat.mul_le_mul_left _ (Nat.pow_le_pow_right (by decide) (by omega))
    have he : v * 2 ^ (i + 1) = v * 2 ^ i * 2 := by rw [Nat.pow_succ, Nat.mul_assoc]
    rw [if_pos (by omega), wrap_in (n := (i : Int) + 1) (by omega) (by omega), show ((v * 2 ^ i : Nat) : Int) * 2 = ((v * 2 ^ (i + 1) : Nat) : Int) by omega, wrapu_nat _ (by omega)]
    exact ih (i + 1) (by omega) k (by omega)
theorem refBit (z : BitVec 64) (f c tt : Nat) (h : f + c ≤ 64) (h2 : c + tt ≤ 64) (k : Nat) (hk : 67 ≤ k) : caponierref02_bit.f k (S z) (f : Int) (c : Int) (tt : Int) = some ((z.toNat / 2 ^ f % 2 ^ c * 2 ^ tt : Nat) : Int) := by
  unfold caponierref02_bit.f
  rw [wrapUS, ref_field_yes z (by omega) (by omega) (by omega) hk, Option.bind_some, Int.toNat_natCast, Int.toNat_natCast]
  dsimp only
  rw [U_fld z f c (by omega)]
  have hlt : z.toNat / 2 ^ f % 2 ^ c < 2 ^ c := Nat.mod_lt _ (Nat.pow_pos (by decide))
  have hb : z.toNat / 2 ^ f % 2 ^ c * 2 ^ tt < 18446744073709551616 := by
    have a1 : z.toNat / 2 ^ f % 2 ^ c * 2 ^ tt < 2 ^ c * 2 ^ tt := Nat.mul_lt_mul_of_pos_right hlt (Nat.pow_pos (by decide))
    rw [← Nat.pow_add] at a1
    exact Nat.lt_of_lt_of_le a1 (Nat.pow_le_pow_right (by decide) h2)
  have g := bit_l (z.toNat / 2 ^ f % 2 ^ c) tt hb (by omega) tt 0 (by omega) k (by omega)
  rw [Nat.pow_zero, Nat.mul_one] at g
  exact g
theorem refLow (x : Nat) (h : x ≤ 42) : caponierref02_low.f (x : Int) = some (lo x : Int) := by
  have g : ∀ n : Fin 43, caponierref02_low.f ((n.val : Nat) : Int) = some (lo n.val : Int) := by decide +kernel
  exact g ⟨x, by omega⟩
theorem refKind (x : Nat) (h : x ≤ 42) : caponierref02_Kind.f (x : Int) = some (kd x : Int) := by
  have g : ∀ n : Fin 43, caponierref02_Kind.f ((n.val : Nat) : Int) = some (kd n.val : Int) := by decide +kernel
  exact g ⟨x, by omega⟩
theorem refTop (k : Nat) (x : Nat) (h : x ≤ 42) (h2 : fm x = .R ∨ shf x = true) : caponierref02_Top.f (k + 1) (x : Int) = some (if shf x = true then ((2 * tp x : Nat) : Int) else (tp x : Int)) := by
  have g : ∀ n : Fin 43, (fm n.val = .R ∨ shf n.val = true) → caponierref02_Top.f 1 ((n.val : Nat) : Int) = some (if shf n.val = true then ((2 * tp n.val : Nat) : Int) else (tp n.val : Int)) := by decide +kernel
  have e : caponierref02_Top.f (k + 1) (x : Int) = caponierref02_Top.f 1 (x : Int) := by
    unfold caponierref02_Top.f
    simp only [caponierref02_Top.j0]
  rw [e]
  exact g ⟨x, by omega⟩ h2
theorem refBase (l d a b : Nat) (hl : l < 128) (hd : d < 32) (ha : a < 32) (hb : b < 32) :
    IntKind.u64.wrap ((IntKind.u64.wrap ((IntKind.u64.wrap ((l : Int) + (IntKind.u64.wrap ((IntKind.u64.wrap (d : Int)) * 128)))) + (IntKind.u64.wrap ((IntKind.u64.wrap (a : Int)) * 32768)))) + (IntKind.u64.wrap ((IntKind.u64.wrap (b : Int)) * 1048576))) = ((l + 128 * d + 32768 * a + 1048576 * b : Nat) : Int) := by
  rw [wrapu_in (n := (d : Int)) (by omega) (by omega), wrapu_in (n := (a : Int)) (by omega) (by omega), wrapu_in (n := (b : Int)) (by omega) (by omega), wrapu_in (n := (d : Int) * 128) (by omega) (by omega), wrapu_in (n := (a : Int) * 32768) (by omega) (by omega), wrapu_in (n := (b : Int) * 1048576) (by omega) (by omega)]
  rw [wrapu_in (n := (l : Int) + (d : Int) * 128) (by omega) (by omega), wrapu_in (n := (l : Int) + (d : Int) * 128 + (a : Int) * 32768) (by omega) (by omega), wrapu_in (by omega) (by omega)]
  omega
theorem refEnc_no (k : Nat) (op d a b n : Int) (m : ¬ MayS op d a b n) : caponierref02_Encode.f (k + 70) op d a b n = some (0, 1) := by
  unfold caponierref02_Encode.f
  rw [refMay (k + 67) op d a b n false ⟨fun h => (by cases h), fun h => absurd h m⟩, Option.bind_some, if_neg (by decide)]
set_option maxHeartbeats 4000000 in
theorem refEnc_yes (k : Nat) (op d a b n : Int) (m : MayS op d a b n) : caponierref02_Encode.f (k + 70) op d a b n = some (encS op.toNat d a b n, 0) := by
  have hM := refMay (k + 67) op d a b n true ⟨fun _ => m, fun _ => rfl⟩
  obtain ⟨x, rfl⟩ := Int.eq_ofNat_of_zero_le m.op0
  have hx : x ≤ 42 := by have := m.op1; omega
  have hrng := encS_range x d a b n m
  rw [may_reg] at m
  obtain ⟨_, ⟨d0, d1, d2⟩, ⟨a0, a1, a2⟩, ⟨b0, b1, b2⟩, hi⟩ := m
  obtain ⟨d, rfl⟩ := Int.eq_ofNat_of_zero_le d0
  obtain ⟨a, rfl⟩ := Int.eq_ofNat_of_zero_le a0
  obtain ⟨b, rfl⟩ := Int.eq_ofNat_of_zero_le b0
  have hl := lo_lt x
  have hk := kd_lt x
  have ht := tp_lt x
  have hn : -9223372036854775808 ≤ n ∧ n < 9223372036854775808 := by
    unfold immS at hi
    cases hf : fm x <;> rw [hf] at hi <;> dsimp only at hi
    · omega
    · split at hi <;> omega
    · omega
    · omega
    · omega
    · omega
    · omega
  obtain ⟨z, rfl⟩ : ∃ z : BitVec 64, n = S z := ⟨BitVec.ofInt 64 n, (S_of hn.1 hn.2).symm⟩
  clear hn
  have hz := z.isLt
  unfold caponierref02_Encode.f
  rw [hM, Option.bind_some, if_pos rfl, Int.toNat_natCast]
  by_cases h42 : x = 42
  · subst h42
    rw [if_pos (by decide)]
    rfl
  · rw [if_neg (by omega), refForm (k + 68) _, Option.bind_some, refLow x hx, Option.bind_some, formF_at (by omega) (by omega), Int.toNat_natCast]
    rw [refBase (lo x) d a b hl (by omega) (by omega) (by omega), s_list (fm x)]
    have hK := refKind x hx
    have kw : IntKind.u64.wrap ((kd x : Int) * 4096) = (kd x : Int) * 4096 := wrapu_in (by omega) (by omega)
    have B := fun (f c tt : Nat) h h2 => refBit z f c tt h h2 (k + 68) (by omega)
    unfold encS at hrng ⊢
    have e42 : fm x ≠ .E := by
      have g : ∀ n : Fin 43, n.val ≠ 42 → fm n.val ≠ .E := by decide +kernel
      exact g ⟨x, by omega⟩ h42
    cases hf : fm x <;> rw [hf] at d2 a2 b2 hi hrng e42 <;> simp only [Fm.d, Fm.a, Fm.b, immS] at d2 a2 b2 hi hrng ⊢
    · have qR : ([Fm.R.c] = ([82] : List UInt8)) = True := eq_true (by decide)
      have qI : ([Fm.R.c] = ([73] : List UInt8)) = False := eq_false (by decide)
      have qS : ([Fm.R.c] = ([83] : List UInt8)) = False := eq_false (by decide)
      have qB : ([Fm.R.c] = ([66] : List UInt8)) = False := eq_false (by decide)
      have qU : ([Fm.R.c] = ([85] : List UInt8)) = False := eq_false (by decide)
      have qJ : ([Fm.R.c] = ([74] : List UInt8)) = False := eq_false (by decide)
      have qn : ([Fm.R.c] != ([74] : List UInt8)) = true := by decide
      have hT := refTop (k + 67) x hx (Or.inl hf)
      have hs : shf x = false := by cases hs : shf x; rfl; rw [shf_I x hs] at hf; cases hf
      rw [hs, if_neg (by decide)] at hT
      simp only [qR, qI, qS, qB, qU, qJ, qn, hT, caponierref02_Encode.j0, caponierref02_Encode.j1, hK, kw, Option.bind_some, s_list, if_true, if_false, Bool.false_eq_true]
      rw [wrapu_in (n := ((lo x + 128 * d + 32768 * a + 1048576 * b : Nat) : Int) + (kd x : Int) * 4096) (by omega) (by omega), wrapu_in (n := (tp x : Int) * 33554432) (by omega) (by omega), wrapu_in (n := ((lo x + 128 * d + 32768 * a + 1048576 * b : Nat) : Int) + (kd x : Int) * 4096 + (tp x : Int) * 33554432) (by omega) (by omega)]
      refine congrArg some (Prod.ext ?_ rfl)
      show _ % _ = _
      omega
    · cases hs : shf x
      · have b3 : b = 0 := by have := b2 trivial; omega
        subst b3
        have qR : ([Fm.I.c] = ([82] : List UInt8)) = False := eq_false (by decide)
        have qI : ([Fm.I.c] = ([73] : List UInt8)) = True := eq_true (by decide)
        have qS : ([Fm.I.c] = ([83] : List UInt8)) = False := eq_false (by decide)
        have qB : ([Fm.I.c] = ([66] : List UInt8)) = False := eq_false (by decide)
        have qU : ([Fm.I.c] = ([85] : List UInt8)) = False := eq_false (by decide)
        have qJ : ([Fm.I.c] = ([74] : List UInt8)) = False := eq_false (by decide)
        have qn : ([Fm.I.c] != ([74] : List UInt8)) = true := by decide
        have hS := refShift x
        rw [hs] at hS
        simp only [hs, Bool.false_eq_true, if_false] at hi hrng ⊢
        have B0 : caponierref02_bit.f (k + 68) (S z) 0 12 20 = some ((z.toNat % 4096 * 1048576 : Nat) : Int) := (by have g := refBit z 0 12 20 (by decide) (by decide) (k + 68) (by omega); rw [Nat.pow_zero, Nat.div_one] at g; exact g)
        rw [S_1_4096]
        have y0 : z.toNat % 4096 < 4096 := Nat.mod_lt _ (by decide)
        clear hi hrng B hz
        generalize z.toNat % 4096 = u0 at *
        simp only [qR, qI, qS, qB, qU, qJ, qn, hS, B0, caponierref02_Encode.j0, caponierref02_Encode.j1, hK, kw, Option.bind_some, s_list, if_true, if_false, Bool.false_eq_true]
        rw [wrapu_in (n := ((lo x + 128 * d + 32768 * a + 1048576 * 0 : Nat) : Int) + (kd x : Int) * 4096) (by omega) (by omega), wrapu_in (n := ((lo x + 128 * d + 32768 * a + 1048576 * 0 : Nat) : Int) + (kd x : Int) * 4096 + ((u0 * 1048576 : Nat) : Int)) (by omega) (by omega)]
        refine congrArg some (Prod.ext ?_ rfl)
        show _ % _ = _
        omega
      · have b3 : b = 0 := by have := b2 trivial; omega
        subst b3
        have qR : ([Fm.I.c] = ([82] : List UInt8)) = False := eq_false (by decide)
        have qI : ([Fm.I.c] = ([73] : List UInt8)) = True := eq_true (by decide)
        have qS : ([Fm.I.c] = ([83] : List UInt8)) = False := eq_false (by decide)
        have qB : ([Fm.I.c] = ([66] : List UInt8)) = False := eq_false (by decide)
        have qU : ([Fm.I.c] = ([85] : List UInt8)) = False := eq_false (by decide)
        have qJ : ([Fm.I.c] = ([74] : List UInt8)) = False := eq_false (by decide)
        have qn : ([Fm.I.c] != ([74] : List UInt8)) = true := by decide
        have hT := refTop (k + 67) x hx (Or.inr hs)
        rw [hs, if_pos rfl] at hT
        have hS := refShift x
        rw [hs] at hS
        simp only [hs, if_true] at hi hrng ⊢
        have hSz := S_nat z
        have hzn : S z = (z.toNat : Int) := by split at hSz <;> omega
        have hz2 : z.toNat < 64 := by omega
        have B0 : caponierref02_bit.f (k + 68) (S z) 0 12 20 = some ((z.toNat * 1048576 : Nat) : Int) := by
          have g := refBit z 0 12 20 (by decide) (by decide) (k + 68) (by omega)
          have e : z.toNat / 2 ^ 0 % 2 ^ 12 * 2 ^ 20 = z.toNat * 1048576 := by rw [Nat.pow_zero, Nat.div_one, Nat.mod_eq_of_lt (by omega)]
          rw [e] at g
          exact g
        simp only [qR, qI, qS, qB, qU, qJ, qn, B0, hT, hS, caponierref02_Encode.j0, caponierref02_Encode.j1, hK, kw, Option.bind_some, s_list, if_true, if_false, Bool.false_eq_true]
        rw [wrapu_in (n := ((lo x + 128 * d + 32768 * a + 1048576 * 0 : Nat) : Int) + (kd x : Int) * 4096) (by omega) (by omega), wrapu_in (n := ((lo x + 128 * d + 32768 * a + 1048576 * 0 : Nat) : Int) + (kd x : Int) * 4096 + ((z.toNat * 1048576 : Nat) : Int)) (by omega) (by omega), wrapu_in (n := ((2 * tp x : Nat) : Int) * 33554432) (by omega) (by omega), wrapu_in (n := ((lo x + 128 * d + 32768 * a + 1048576 * 0 : Nat) : Int) + (kd x : Int) * 4096 + ((z.toNat * 1048576 : Nat) : Int) + ((2 * tp x : Nat) : Int) * 33554432) (by omega) (by omega)]
        rw [hzn]
        refine congrArg some (Prod.ext ?_ rfl)
        show _ % _ = _
        omega
    · have d3 : d = 0 := by have := d2 trivial; omega
      subst d3
      have qR : ([Fm.S.c] = ([82] : List UInt8)) = False := eq_false (by decide)
      have qI : ([Fm.S.c] = ([73] : List UInt8)) = False := eq_false (by decide)
      have qS : ([Fm.S.c] = ([83] : List UInt8)) = True := eq_true (by decide)
      have qB : ([Fm.S.c] = ([66] : List UInt8)) = False := eq_false (by decide)
      have qU : ([Fm.S.c] = ([85] : List UInt8)) = False := eq_false (by decide)
      have qJ : ([Fm.S.c] = ([74] : List UInt8)) = False := eq_false (by decide)
      have qn : ([Fm.S.c] != ([74] : List UInt8)) = true := by decide
      have B0 : caponierref02_bit.f (k + 68) (S z) 0 5 7 = some ((z.toNat % 32 * 128 : Nat) : Int) := (by have g := refBit z 0 5 7 (by decide) (by decide) (k + 68) (by omega); rw [Nat.pow_zero, Nat.div_one] at g; exact g)
      rw [S_1_32]
      have y0 : z.toNat % 32 < 32 := Nat.mod_lt _ (by decide)
      have B1 : caponierref02_bit.f (k + 68) (S z) 5 7 25 = some ((z.toNat / 32 % 128 * 33554432 : Nat) : Int) := refBit z 5 7 25 (by decide) (by decide) (k + 68) (by omega)
      rw [S_32_128]
      have y1 : z.toNat / 32 % 128 < 128 := Nat.mod_lt _ (by decide)
      clear hi hrng B hz
      generalize z.toNat % 32 = u0 at *
      generalize z.toNat / 32 % 128 = u1 at *
      simp only [qR, qI, qS, qB, qU, qJ, qn, B0, B1, caponierref02_Encode.j0, caponierref02_Encode.j1, hK, kw, Option.bind_some, s_list, if_true, if_false, Bool.false_eq_true]
      rw [wrapu_in (n := ((lo x + 128 * 0 + 32768 * a + 1048576 * b : Nat) : Int) + (kd x : Int) * 4096) (by omega) (by omega), wrapu_in (n := ((lo x + 128 * 0 + 32768 * a + 1048576 * b : Nat) : Int) + (kd x : Int) * 4096 + ((u0 * 128 : Nat) : Int)) (by omega) (by omega), wrapu_in (n := ((lo x + 128 * 0 + 32768 * a + 1048576 * b : Nat) : Int) + (kd x : Int) * 4096 + ((u0 * 128 : Nat) : Int) + ((u1 * 33554432 : Nat) : Int)) (by omega) (by omega)]
      refine congrArg some (Prod.ext ?_ rfl)
      show _ % _ = _
      omega
    · have d3 : d = 0 := by have := d2 trivial; omega
      subst d3
      have qR : ([Fm.B.c] = ([82] : List UInt8)) = False := eq_false (by decide)
      have qI : ([Fm.B.c] = ([73] : List UInt8)) = False := eq_false (by decide)
      have qS : ([Fm.B.c] = ([83] : List UInt8)) = False := eq_false (by decide)
      have qB : ([Fm.B.c] = ([66] : List UInt8)) = True := eq_true (by decide)
      have qU : ([Fm.B.c] = ([85] : List UInt8)) = False := eq_false (by decide)
      have qJ : ([Fm.B.c] = ([74] : List UInt8)) = False := eq_false (by decide)
      have qn : ([Fm.B.c] != ([74] : List UInt8)) = true := by decide
      have B0 : caponierref02_bit.f (k + 68) (S z) 1 4 8 = some ((z.toNat / 2 % 16 * 256 : Nat) : Int) := refBit z 1 4 8 (by decide) (by decide) (k + 68) (by omega)
      rw [S_2_16]
      have y0 : z.toNat / 2 % 16 < 16 := Nat.mod_lt _ (by decide)
      have B1 : caponierref02_bit.f (k + 68) (S z) 5 6 25 = some ((z.toNat / 32 % 64 * 33554432 : Nat) : Int) := refBit z 5 6 25 (by decide) (by decide) (k + 68) (by omega)
      rw [S_32_64]
      have y1 : z.toNat / 32 % 64 < 64 := Nat.mod_lt _ (by decide)
      have B2 : caponierref02_bit.f (k + 68) (S z) 11 1 7 = some ((z.toNat / 2048 % 2 * 128 : Nat) : Int) := refBit z 11 1 7 (by decide) (by decide) (k + 68) (by omega)
      rw [S_2048_2]
      have y2 : z.toNat / 2048 % 2 < 2 := Nat.mod_lt _ (by decide)
      have B3 : caponierref02_bit.f (k + 68) (S z) 12 1 31 = some ((z.toNat / 4096 % 2 * 2147483648 : Nat) : Int) := refBit z 12 1 31 (by decide) (by decide) (k + 68) (by omega)
      rw [S_4096_2]
      have y3 : z.toNat / 4096 % 2 < 2 := Nat.mod_lt _ (by decide)
      clear hi hrng B hz
      generalize z.toNat / 2 % 16 = u0 at *
      generalize z.toNat / 32 % 64 = u1 at *
      generalize z.toNat / 2048 % 2 = u2 at *
      generalize z.toNat / 4096 % 2 = u3 at *
      simp only [qR, qI, qS, qB, qU, qJ, qn, B0, B1, B2, B3, caponierref02_Encode.j0, caponierref02_Encode.j1, hK, kw, Option.bind_some, s_list, if_true, if_false, Bool.false_eq_true]
      rw [wrapu_in (n := ((lo x + 128 * 0 + 32768 * a + 1048576 * b : Nat) : Int) + (kd x : Int) * 4096) (by omega) (by omega), wrapu_in (n := ((lo x + 128 * 0 + 32768 * a + 1048576 * b : Nat) : Int) + (kd x : Int) * 4096 + ((u0 * 256 : Nat) : Int)) (by omega) (by omega), wrapu_in (n := ((lo x + 128 * 0 + 32768 * a + 1048576 * b : Nat) : Int) + (kd x : Int) * 4096 + ((u0 * 256 : Nat) : Int) + ((u1 * 33554432 : Nat) : Int)) (by omega) (by omega), wrapu_in (n := ((lo x + 128 * 0 + 32768 * a + 1048576 * b : Nat) : Int) + (kd x : Int) * 4096 + ((u0 * 256 : Nat) : Int) + ((u1 * 33554432 : Nat) : Int) + ((u2 * 128 : Nat) : Int)) (by omega) (by omega), wrapu_in (n := ((lo x + 128 * 0 + 32768 * a + 1048576 * b : Nat) : Int) + (kd x : Int) * 4096 + ((u0 * 256 : Nat) : Int) + ((u1 * 33554432 : Nat) : Int) + ((u2 * 128 : Nat) : Int) + ((u3 * 2147483648 : Nat) : Int)) (by omega) (by omega)]
      refine congrArg some (Prod.ext ?_ rfl)
      show _ % _ = _
      omega
    · have a3 : a = 0 := by have := a2 trivial; omega
      subst a3
      have b3 : b = 0 := by have := b2 trivial; omega
      subst b3
      have qR : ([Fm.U.c] = ([82] : List UInt8)) = False := eq_false (by decide)
      have qI : ([Fm.U.c] = ([73] : List UInt8)) = False := eq_false (by decide)
      have qS : ([Fm.U.c] = ([83] : List UInt8)) = False := eq_false (by decide)
      have qB : ([Fm.U.c] = ([66] : List UInt8)) = False := eq_false (by decide)
      have qU : ([Fm.U.c] = ([85] : List UInt8)) = True := eq_true (by decide)
      have qJ : ([Fm.U.c] = ([74] : List UInt8)) = False := eq_false (by decide)
      have qn : ([Fm.U.c] != ([74] : List UInt8)) = true := by decide
      have B0 : caponierref02_bit.f (k + 68) (S z) 12 20 12 = some ((z.toNat / 4096 % 1048576 * 4096 : Nat) : Int) := refBit z 12 20 12 (by decide) (by decide) (k + 68) (by omega)
      rw [S_4096_1048576]
      have y0 : z.toNat / 4096 % 1048576 < 1048576 := Nat.mod_lt _ (by decide)
      clear hi hrng B hz
      generalize z.toNat / 4096 % 1048576 = u0 at *
      simp only [qR, qI, qS, qB, qU, qJ, qn, B0, caponierref02_Encode.j0, caponierref02_Encode.j1, hK, kw, Option.bind_some, s_list, if_true, if_false, Bool.false_eq_true]
      rw [wrapu_in (n := ((lo x + 128 * d + 32768 * 0 + 1048576 * 0 : Nat) : Int) + ((u0 * 4096 : Nat) : Int)) (by omega) (by omega)]
      refine congrArg some (Prod.ext ?_ rfl)
      show _ % _ = _
      omega
    · have a3 : a = 0 := by have := a2 trivial; omega
      subst a3
      have b3 : b = 0 := by have := b2 trivial; omega
      subst b3
      have qR : ([Fm.J.c] = ([82] : List UInt8)) = False := eq_false (by decide)
      have qI : ([Fm.J.c] = ([73] : List UInt8)) = False := eq_false (by decide)
      have qS : ([Fm.J.c] = ([83] : List UInt8)) = False := eq_false (by decide)
      have qB : ([Fm.J.c] = ([66] : List UInt8)) = False := eq_false (by decide)
      have qU : ([Fm.J.c] = ([85] : List UInt8)) = False := eq_false (by decide)
      have qJ : ([Fm.J.c] = ([74] : List UInt8)) = True := eq_true (by decide)
      have qn : ([Fm.J.c] != ([74] : List UInt8)) = false := by decide
      have B0 : caponierref02_bit.f (k + 68) (S z) 1 10 21 = some ((z.toNat / 2 % 1024 * 2097152 : Nat) : Int) := refBit z 1 10 21 (by decide) (by decide) (k + 68) (by omega)
      rw [S_2_1024]
      have y0 : z.toNat / 2 % 1024 < 1024 := Nat.mod_lt _ (by decide)
      have B1 : caponierref02_bit.f (k + 68) (S z) 11 1 20 = some ((z.toNat / 2048 % 2 * 1048576 : Nat) : Int) := refBit z 11 1 20 (by decide) (by decide) (k + 68) (by omega)
      rw [S_2048_2]
      have y1 : z.toNat / 2048 % 2 < 2 := Nat.mod_lt _ (by decide)
      have B2 : caponierref02_bit.f (k + 68) (S z) 12 8 12 = some ((z.toNat / 4096 % 256 * 4096 : Nat) : Int) := refBit z 12 8 12 (by decide) (by decide) (k + 68) (by omega)
      rw [S_4096_256]
      have y2 : z.toNat / 4096 % 256 < 256 := Nat.mod_lt _ (by decide)
      have B3 : caponierref02_bit.f (k + 68) (S z) 20 1 31 = some ((z.toNat / 1048576 % 2 * 2147483648 : Nat) : Int) := refBit z 20 1 31 (by decide) (by decide) (k + 68) (by omega)
      rw [S_1048576_2]
      have y3 : z.toNat / 1048576 % 2 < 2 := Nat.mod_lt _ (by decide)
      clear hi hrng B hz
      generalize z.toNat / 2 % 1024 = u0 at *
      generalize z.toNat / 2048 % 2 = u1 at *
      generalize z.toNat / 4096 % 256 = u2 at *
      generalize z.toNat / 1048576 % 2 = u3 at *
      simp only [qR, qI, qS, qB, qU, qJ, qn, B0, B1, B2, B3, caponierref02_Encode.j0, caponierref02_Encode.j1, hK, kw, Option.bind_some, s_list, if_true, if_false, Bool.false_eq_true]
      rw [wrapu_in (n := ((lo x + 128 * d + 32768 * 0 + 1048576 * 0 : Nat) : Int) + ((u0 * 2097152 : Nat) : Int)) (by omega) (by omega), wrapu_in (n := ((lo x + 128 * d + 32768 * 0 + 1048576 * 0 : Nat) : Int) + ((u0 * 2097152 : Nat) : Int) + ((u1 * 1048576 : Nat) : Int)) (by omega) (by omega), wrapu_in (n := ((lo x + 128 * d + 32768 * 0 + 1048576 * 0 : Nat) : Int) + ((u0 * 2097152 : Nat) : Int) + ((u1 * 1048576 : Nat) : Int) + ((u2 * 4096 : Nat) : Int)) (by omega) (by omega), wrapu_in (n := ((lo x + 128 * d + 32768 * 0 + 1048576 * 0 : Nat) : Int) + ((u0 * 2097152 : Nat) : Int) + ((u1 * 1048576 : Nat) : Int) + ((u2 * 4096 : Nat) : Int) + ((u3 * 2147483648 : Nat) : Int)) (by omega) (by omega)]
      refine congrArg some (Prod.ext ?_ rfl)
      show _ % _ = _
      omega
    · exact absurd rfl e42
theorem ref_sign_l (v : BitVec 64) (n : Int) (h1 : 1 ≤ n) (h2 : n ≤ 64) (j : Nat) : j ≤ 64 → ∀ k, j < k → caponierref01_Sign.l0 k (U v) n (((sg v n.toNat).toNat / 2 ^ j : Nat) : Int) ((j : Int) - 1) = some (S (sg v n.toNat)) := by
  induction j with
  | zero =>
    intro _ k hk
    obtain ⟨k, rfl⟩ : ∃ m, k = m + 1 := ⟨k - 1, by omega⟩
    simp only [caponierref01_Sign.l0]
    rw [if_neg (by omega)]
    simp only [Nat.pow_zero, Nat.div_one]
    exact congrArg some (wrapSU _)
  | succ j ih =>
    intro hj k hk
    obtain ⟨k, rfl⟩ : ∃ m, k = m + 1 := ⟨k - 1, by omega⟩
    have e0 : ((j + 1 : Nat) : Int) - 1 = (j : Int) := by omega
    simp only [caponierref01_Sign.l0]
    rw [e0, if_pos (by omega), wrap_in (n := n - 1) (by omega) (by omega), bit_is v (by omega) (by omega)]
    simp only [Option.bind_some]
    have ih' := ih (by omega) k (by omega)
    rw [wrap_in (n := (j : Int) - 1) (by omega) (by omega)]
    have st := step_bit (sg v n.toNat) j
    have bs := bit_sg v n.toNat (by omega) (by omega) j (by omega)
    by_cases hlt : (j : Int) < n
    · rw [if_pos hlt, bit_is v (by omega) (by omega)]
      simp only [Option.bind_some, Int.toNat_natCast]
      rw [if_pos (by omega)] at bs
      rw [bs] at st
      rw [st]; exact ih'
    · rw [if_neg hlt]
      rw [if_neg (by omega)] at bs
      rw [bs, show n.toNat - 1 = (n - 1).toNat by omega] at st
      rw [st]; exact ih'
theorem ref_sign_yes (v : BitVec 64) {n : Int} (h1 : 1 ≤ n) (h2 : n ≤ 64) {k : Nat} (hk : 67 ≤ k) : caponierref01_Sign.f k (U v) n = some (S (sg v n.toNat)) := by
  unfold caponierref01_Sign.f
  obtain ⟨k, rfl⟩ : ∃ m, k = m + 1 := ⟨k - 1, by omega⟩
  rw [if_neg (by omega), decide_eq_false (by omega)]
  simp only [caponierref01_Sign.j0]
  have g := ref_sign_l v n h1 h2 64 (by omega) k (by omega)
  rw [Nat.div_eq_of_lt (sg v n.toNat).isLt] at g
  exact g
theorem w64 (v : BitVec 64) : IntKind.u64.wrap (v.toNat : Int) = U v := by
  have := wrapUU v
  unfold U at this ⊢
  exact this
theorem refFieldW (v : BitVec 64) (f c : Nat) (h : f + c ≤ 64) (k : Nat) (hk : 67 ≤ k) : caponierref02_field.f k (U v) (f : Int) (c : Int) = some ((v.toNat / 2 ^ f % 2 ^ c : Nat) : Int) := by
  unfold caponierref02_field.f
  rw [wrapUU, ref_field_yes v (by omega) (by omega) (by omega) hk, Option.bind_some, Int.toNat_natCast, Int.toNat_natCast, U_fld v f c (by omega)]
theorem refFieldN (v : BitVec 64) (f c F C : Nat) (hF : 2 ^ f = F) (hC : 2 ^ c = C) (h : f + c ≤ 64) (k : Nat) (hk : 67 ≤ k) : caponierref02_field.f k (U v) (f : Int) (c : Int) = some ((v.toNat / F % C : Nat) : Int) := by
  subst hF hC
  exact refFieldW v f c h k hk
theorem refSignN (m : Nat) (n M : Nat) (h1 : 1 ≤ n) (h2 : n ≤ 64) (hM : (2 : Int) ^ n = 2 * (M : Int)) (hl : m < 2 * M) (hm : m < 18446744073709551616) (k : Nat) (hk : 67 ≤ k) : caponierref01_Sign.f k (m : Int) (n : Int) = some (sgn m M) := by
  have e : (BitVec.ofNat 64 m).toNat = m := by rw [BitVec.toNat_ofNat, Nat.mod_eq_of_lt (by omega)]
  have g := ref_sign_yes (BitVec.ofNat 64 m) (n := (n : Int)) (by omega) (by omega) hk
  rw [Int.toNat_natCast, S_sgn _ n M m h1 h2 hM e hl] at g
  unfold U at g
  rw [e] at g
  exact g
theorem refReg (m : Nat) (h : m < 4294967296) : wrap64 (m : Int) = (m : Int) := wrap_in (by omega) (by omega)
theorem refReg64' (m : Nat) : wrap64 ((m % 32 : Nat) : Int) = ((m % 32 : Nat) : Int) := refReg _ (by omega)
theorem refReg64 (m : Nat) : wrap64 ((m % 64 : Nat) : Int) = ((m % 64 : Nat) : Int) := refReg _ (by omega)
theorem sumS (z0 z1 : Nat) (h0 : z0 < 32) (h1 : z1 < 128) : IntKind.u64.wrap ((z0 : Int) + (IntKind.u64.wrap ((z1 : Int) * 32))) = ((z0 + 32 * z1 : Nat) : Int) ∧ z0 + 32 * z1 < 2 * 2048 ∧ z0 + 32 * z1 < 18446744073709551616 := by
  refine ⟨?_, by omega, by omega⟩
  rw [wrapu_in (n := (z1 : Int) * 32) (by omega) (by omega), wrapu_in (n := (z0 : Int) + (z1 : Int) * 32) (by omega) (by omega)]
  omega
theorem sumB (z0 z1 z2 z3 : Nat) (h0 : z0 < 16) (h1 : z1 < 64) (h2 : z2 < 2) (h3 : z3 < 2) : (IntKind.u64.wrap ((IntKind.u64.wrap ((IntKind.u64.wrap ((IntKind.u64.wrap ((z0 : Int) * 2)) + (IntKind.u64.wrap ((z1 : Int) * 32)))) + (IntKind.u64.wrap ((z2 : Int) * 2048)))) + (IntKind.u64.wrap ((z3 : Int) * 4096)))) = ((2 * z0 + 32 * z1 + 2048 * z2 + 4096 * z3 : Nat) : Int) ∧ 2 * z0 + 32 * z1 + 2048 * z2 + 4096 * z3 < 2 * 4096 ∧ 2 * z0 + 32 * z1 + 2048 * z2 + 4096 * z3 < 18446744073709551616 := by
  refine ⟨?_, by omega, by omega⟩
  rw [wrapu_in (n := (z0 : Int) * 2) (by omega) (by omega), wrapu_in (n := (z1 : Int) * 32) (by omega) (by omega), wrapu_in (n := (z2 : Int) * 2048) (by omega) (by omega), wrapu_in (n := (z3 : Int) * 4096) (by omega) (by omega), wrapu_in (n := (z0 : Int) * 2 + (z1 : Int) * 32) (by omega) (by omega), wrapu_in (n := (z0 : Int) * 2 + (z1 : Int) * 32 + (z2 : Int) * 2048) (by omega) (by omega), wrapu_in (n := (z0 : Int) * 2 + (z1 : Int) * 32 + (z2 : Int) * 2048 + (z3 : Int) * 4096) (by omega) (by omega)]
  omega
theorem sumU (z0 : Nat) (h0 : z0 < 1048576) : IntKind.u64.wrap ((z0 : Int) * 4096) = ((4096 * z0 : Nat) : Int) ∧ 4096 * z0 < 2 * 2147483648 ∧ 4096 * z0 < 18446744073709551616 := by
  refine ⟨?_, by omega, by omega⟩
  rw [wrapu_in (n := (z0 : Int) * 4096) (by omega) (by omega)]
  omega
theorem sumJ (z0 z1 z2 z3 : Nat) (h0 : z0 < 1024) (h1 : z1 < 2) (h2 : z2 < 256) (h3 : z3 < 2) : (IntKind.u64.wrap ((IntKind.u64.wrap ((IntKind.u64.wrap ((IntKind.u64.wrap ((z0 : Int) * 2)) + (IntKind.u64.wrap ((z1 : Int) * 2048)))) + (IntKind.u64.wrap ((z2 : Int) * 4096)))) + (IntKind.u64.wrap ((z3 : Int) * 1048576)))) = ((2 * z0 + 2048 * z1 + 4096 * z2 + 1048576 * z3 : Nat) : Int) ∧ 2 * z0 + 2048 * z1 + 4096 * z2 + 1048576 * z3 < 2 * 1048576 ∧ 2 * z0 + 2048 * z1 + 4096 * z2 + 1048576 * z3 < 18446744073709551616 := by
  refine ⟨?_, by omega, by omega⟩
  rw [wrapu_in (n := (z0 : Int) * 2) (by omega) (by omega), wrapu_in (n := (z1 : Int) * 2048) (by omega) (by omega), wrapu_in (n := (z2 : Int) * 4096) (by omega) (by omega), wrapu_in (n := (z3 : Int) * 1048576) (by omega) (by omega), wrapu_in (n := (z0 : Int) * 2 + (z1 : Int) * 2048) (by omega) (by omega), wrapu_in (n := (z0 : Int) * 2 + (z1 : Int) * 2048 + (z2 : Int) * 4096) (by omega) (by omega), wrapu_in (n := (z0 : Int) * 2 + (z1 : Int) * 2048 + (z2 : Int) * 4096 + (z3 : Int) * 1048576) (by omega) (by omega)]
  omega
set_option maxHeartbeats 8000000 in
theorem refAs_R (k x V : Nat) (hx : x ≤ 42) (hV : V < 4294967296) (hf : fm x = .R) : caponierref02_as.f (k + 80) (V : Int) (x : Int) = some ((x : Int), decS V x) := by
  obtain ⟨v, rfl⟩ : ∃ v : BitVec 64, V = v.toNat := ⟨BitVec.ofNat 64 V, by rw [BitVec.toNat_ofNat, Nat.mod_eq_of_lt (by omega)]⟩
  have hu : ((v.toNat : Nat) : Int) = U v := rfl
  unfold caponierref02_as.f
  rw [refForm (k + 78) _, Option.bind_some, formF_at (by omega) (by omega), Int.toNat_natCast, s_list (fm x), hu]
  unfold decS
  have r7 : v.toNat / 128 % 32 < 4294967296 := by have := Nat.mod_lt (v.toNat / 128) (show 32 > 0 by decide); omega
  have r15 : v.toNat / 32768 % 32 < 4294967296 := by have := Nat.mod_lt (v.toNat / 32768) (show 32 > 0 by decide); omega
  have r20 : v.toNat / 1048576 % 32 < 4294967296 := by have := Nat.mod_lt (v.toNat / 1048576) (show 32 > 0 by decide); omega
  have g7 : caponierref02_field.f (k + 79) (U v) 7 5 = some ((v.toNat / 128 % 32 : Nat) : Int) := refFieldN v 7 5 128 32 (by decide) (by decide) (by decide) (k + 79) (Nat.le_trans (by decide) (Nat.le_add_left _ k))
  have g15 : caponierref02_field.f (k + 77) (U v) 15 5 = some ((v.toNat / 32768 % 32 : Nat) : Int) := refFieldN v 15 5 32768 32 (by decide) (by decide) (by decide) (k + 77) (Nat.le_trans (by decide) (Nat.le_add_left _ k))
  have g20 : caponierref02_field.f (k + 75) (U v) 20 5 = some ((v.toNat / 1048576 % 32 : Nat) : Int) := refFieldN v 20 5 1048576 32 (by decide) (by decide) (by decide) (k + 75) (Nat.le_trans (by decide) (Nat.le_add_left _ k))
  have e7 := refReg _ r7
  have e15 := refReg _ r15
  have e20 := refReg _ r20
  clear r7 r15 r20
  rw [hf]
  have qR : ([Fm.R.c] = ([82] : List UInt8)) = True := eq_true (by decide)
  have qI : ([Fm.R.c] = ([73] : List UInt8)) = False := eq_false (by decide)
  have qS : ([Fm.R.c] = ([83] : List UInt8)) = False := eq_false (by decide)
  have qB : ([Fm.R.c] = ([66] : List UInt8)) = False := eq_false (by decide)
  have qU : ([Fm.R.c] = ([85] : List UInt8)) = False := eq_false (by decide)
  have qJ : ([Fm.R.c] = ([74] : List UInt8)) = False := eq_false (by decide)
  have qE : ([Fm.R.c] = ([69] : List UInt8)) = False := eq_false (by decide)
  have qn : ([Fm.R.c] != ([69] : List UInt8)) = true := by decide
  have qb : ([Fm.R.c] == ([66] : List UInt8)) = false := by decide
  dsimp only
  simp only [qR, qI, qS, qB, qU, qJ, qE, qn, qb, g7, g15, g20, e7, e15, e20, caponierref02_as.j0, caponierref02_as.j1, caponierref02_as.j2, caponierref02_as.j3, caponierref02_as.j4, caponierref02_as.j5, Option.bind_some, s_list, if_true, if_false, Bool.false_eq_true]
set_option maxHeartbeats 8000000 in
theorem refAs_I0 (k x V : Nat) (hx : x ≤ 42) (hV : V < 4294967296) (hf : fm x = .I) (hs : shf x = false) : caponierref02_as.f (k + 80) (V : Int) (x : Int) = some ((x : Int), decS V x) := by
  obtain ⟨v, rfl⟩ : ∃ v : BitVec 64, V = v.toNat := ⟨BitVec.ofNat 64 V, by rw [BitVec.toNat_ofNat, Nat.mod_eq_of_lt (by omega)]⟩
  have hu : ((v.toNat : Nat) : Int) = U v := rfl
  unfold caponierref02_as.f
  rw [refForm (k + 78) _, Option.bind_some, formF_at (by omega) (by omega), Int.toNat_natCast, s_list (fm x), hu]
  unfold decS
  have r7 : v.toNat / 128 % 32 < 4294967296 := by have := Nat.mod_lt (v.toNat / 128) (show 32 > 0 by decide); omega
  have r15 : v.toNat / 32768 % 32 < 4294967296 := by have := Nat.mod_lt (v.toNat / 32768) (show 32 > 0 by decide); omega
  have r20 : v.toNat / 1048576 % 32 < 4294967296 := by have := Nat.mod_lt (v.toNat / 1048576) (show 32 > 0 by decide); omega
  have g7 : caponierref02_field.f (k + 79) (U v) 7 5 = some ((v.toNat / 128 % 32 : Nat) : Int) := refFieldN v 7 5 128 32 (by decide) (by decide) (by decide) (k + 79) (Nat.le_trans (by decide) (Nat.le_add_left _ k))
  have g15 : caponierref02_field.f (k + 77) (U v) 15 5 = some ((v.toNat / 32768 % 32 : Nat) : Int) := refFieldN v 15 5 32768 32 (by decide) (by decide) (by decide) (k + 77) (Nat.le_trans (by decide) (Nat.le_add_left _ k))
  have g20 : caponierref02_field.f (k + 75) (U v) 20 5 = some ((v.toNat / 1048576 % 32 : Nat) : Int) := refFieldN v 20 5 1048576 32 (by decide) (by decide) (by decide) (k + 75) (Nat.le_trans (by decide) (Nat.le_add_left _ k))
  have e7 := refReg _ r7
  have e15 := refReg _ r15
  have e20 := refReg _ r20
  clear r7 r15 r20
  rw [hf]
  rw [hs]
  have qR : ([Fm.I.c] = ([82] : List UInt8)) = False := eq_false (by decide)
  have qI : ([Fm.I.c] = ([73] : List UInt8)) = True := eq_true (by decide)
  have qS : ([Fm.I.c] = ([83] : List UInt8)) = False := eq_false (by decide)
  have qB : ([Fm.I.c] = ([66] : List UInt8)) = False := eq_false (by decide)
  have qU : ([Fm.I.c] = ([85] : List UInt8)) = False := eq_false (by decide)
  have qJ : ([Fm.I.c] = ([74] : List UInt8)) = False := eq_false (by decide)
  have qE : ([Fm.I.c] = ([69] : List UInt8)) = False := eq_false (by decide)
  have qn : ([Fm.I.c] != ([69] : List UInt8)) = true := by decide
  have qb : ([Fm.I.c] == ([66] : List UInt8)) = false := by decide
  dsimp only
  have F0 : caponierref02_field.f (k + 74) (U v) 20 12 = some ((v.toNat / 1048576 % 4096 : Nat) : Int) := refFieldN v 20 12 1048576 4096 (by decide) (by decide) (by decide) (k + 74) (Nat.le_trans (by decide) (Nat.le_add_left _ k))
  have y0 : v.toNat / 1048576 % 4096 < 4096 := Nat.mod_lt _ (by decide)
  have sg : caponierref01_Sign.f (k + 74) (((v.toNat / 1048576 % 4096) : Nat) : Int) 12 = some (sgn ((v.toNat / 1048576 % 4096)) 2048) := refSignN _ 12 2048 (by decide) (by decide) (by decide) y0 (Nat.lt_trans y0 (by decide)) (k + 74) (Nat.le_trans (by decide) (Nat.le_add_left 74 k))
  have hS := refShift x
  rw [hs] at hS
  simp only [qR, qI, qS, qB, qU, qJ, qE, qn, qb, g7, g15, g20, e7, e15, e20, F0, sg, hS, caponierref02_as.j0, caponierref02_as.j1, caponierref02_as.j2, caponierref02_as.j3, caponierref02_as.j4, caponierref02_as.j5, Option.bind_some, s_list, if_true, if_false, Bool.false_eq_true]
theorem refJ5_I1 (k : Nat) (uv x : Int) (t : ByteArray) (q : t.toList = [Fm.I.c]) (z0 z9 s9 : Int) (F0 : caponierref02_field.f k uv 20 12 = some z0) (sg : caponierref01_Sign.f k z0 12 = some s9) (hS : caponierref02_Shift.f x = some true) (F9 : caponierref02_field.f k uv 20 6 = some z9) (e9 : wrap64 z9 = z9) (x0 x1 x2 x3 x4 : Int) :
    caponierref02_as.j5 (k + 1) uv x t x0 x1 x2 x3 x4 = some (x0, x1, x2, x3, z9) := by
  have e : caponierref02_as.j5 (k + 1) uv x t x0 x1 x2 x3 x4 = ((caponierref02_field.f k uv 20 12).bind fun t164 => ((caponierref01_Sign.f k t164 12).bind fun t165 => ((caponierref02_Shift.f x).bind fun t166 => (if t166 = true then ((caponierref02_field.f k uv 20 6).bind fun t167 => (some (x0, x1, x2, x3, wrap64 (t167)))) else (some (x0, x1, x2, x3, t165)))))) := by
    rw [caponierref02_as.j5, q]
    exact if_pos rfl
  rw [e, F0, Option.bind_some, sg, Option.bind_some, hS, Option.bind_some, if_pos rfl, F9, Option.bind_some, e9]
theorem refAs_I1' (k x : Nat) (hx : x ≤ 42) (hf : fm x = .I) (uv z1 z2 z0 z9 s9 : Int) (g7 : caponierref02_field.f (k + 79) uv 7 5 = some z1) (g15 : caponierref02_field.f (k + 77) uv 15 5 = some z2) (e7 : wrap64 z1 = z1) (e15 : wrap64 z2 = z2)
    (F0 : caponierref02_field.f (k + 74) uv 20 12 = some z0) (sg : caponierref01_Sign.f (k + 74) z0 12 = some s9) (hS : caponierref02_Shift.f (x : Int) = some true) (F9 : caponierref02_field.f (k + 74) uv 20 6 = some z9) (e9 : wrap64 z9 = z9) :
    caponierref02_as.f (k + 80) uv (x : Int) = some ((x : Int), z1, z2, 0, z9) := by
  unfold caponierref02_as.f
  rw [refForm (k + 78) _, Option.bind_some, formF_at (by omega) (by omega), Int.toNat_natCast, s_list (fm x), hf]
  have qR : ([Fm.I.c] = ([82] : List UInt8)) = False := eq_false (by decide)
  have qI : ([Fm.I.c] = ([73] : List UInt8)) = True := eq_true (by decide)
  have qS : ([Fm.I.c] = ([83] : List UInt8)) = False := eq_false (by decide)
  have qB : ([Fm.I.c] = ([66] : List UInt8)) = False := eq_false (by decide)
  have qU : ([Fm.I.c] = ([85] : List UInt8)) = False := eq_false (by decide)
  have qJ : ([Fm.I.c] = ([74] : List UInt8)) = False := eq_false (by decide)
  have qE : ([Fm.I.c] = ([69] : List UInt8)) = False := eq_false (by decide)
  have qn : ([Fm.I.c] != ([69] : List UInt8)) = true := by decide
  have qb : ([Fm.I.c] == ([66] : List UInt8)) = false := by decide
  simp only [qR, qI, qS, qB, qU, qJ, qE, qn, qb, g7, g15, e7, e15, caponierref02_as.j0, caponierref02_as.j1, caponierref02_as.j2, caponierref02_as.j3, caponierref02_as.j4, Option.bind_some, s_list, if_true, if_false, Bool.false_eq_true]
  exact refJ5_I1 (k + 74) uv (x : Int) _ (s_list .I) z0 z9 s9 F0 sg hS F9 e9 _ _ _ _ _
theorem refAs_I1 (k x V : Nat) (hx : x ≤ 42) (hV : V < 4294967296) (hf : fm x = .I) (hs : shf x = true) : caponierref02_as.f (k + 80) (V : Int) (x : Int) = some ((x : Int), decS V x) := by
  obtain ⟨v, rfl⟩ : ∃ v : BitVec 64, V = v.toNat := ⟨BitVec.ofNat 64 V, by rw [BitVec.toNat_ofNat, Nat.mod_eq_of_lt (by omega)]⟩
  have g7 : caponierref02_field.f (k + 79) (U v) 7 5 = some ((v.toNat / 128 % 32 : Nat) : Int) := refFieldN v 7 5 128 32 (by decide) (by decide) (by decide) (k + 79) (by omega)
  have g15 : caponierref02_field.f (k + 77) (U v) 15 5 = some ((v.toNat / 32768 % 32 : Nat) : Int) := refFieldN v 15 5 32768 32 (by decide) (by decide) (by decide) (k + 77) (by omega)
  have F0 : caponierref02_field.f (k + 74) (U v) 20 12 = some ((v.toNat / 1048576 % 4096 : Nat) : Int) := refFieldN v 20 12 1048576 4096 (by decide) (by decide) (by decide) (k + 74) (by omega)
  have F9 : caponierref02_field.f (k + 74) (U v) 20 6 = some ((v.toNat / 1048576 % 64 : Nat) : Int) := refFieldN v 20 6 1048576 64 (by decide) (by decide) (by decide) (k + 74) (by omega)
  have hS := refShift x
  rw [hs] at hS
  have hd : decS v.toNat x = (((v.toNat / 128 % 32 : Nat) : Int), ((v.toNat / 32768 % 32 : Nat) : Int), 0, ((v.toNat / 1048576 % 64 : Nat) : Int)) := by
    unfold decS
    rw [hf, hs]
    rfl
  have sg := refSignN (v.toNat / 1048576 % 4096) 12 2048 (by decide) (by decide) (by decide) (Nat.mod_lt _ (by decide)) (Nat.lt_trans (Nat.mod_lt _ (show 4096 > 0 by decide)) (by decide)) (k + 74) (by omega)
  have g := refAs_I1' k x hx hf (U v) _ _ _ _ _ g7 g15 (refReg64' _) (refReg64' _) F0 sg hS F9 (refReg64 _)
  rw [hd]
  exact g
set_option maxHeartbeats 8000000 in
theorem refAs_S (k x V : Nat) (hx : x ≤ 42) (hV : V < 4294967296) (hf : fm x = .S) : caponierref02_as.f (k + 80) (V : Int) (x : Int) = some ((x : Int), decS V x) := by
  obtain ⟨v, rfl⟩ : ∃ v : BitVec 64, V = v.toNat := ⟨BitVec.ofNat 64 V, by rw [BitVec.toNat_ofNat, Nat.mod_eq_of_lt (by omega)]⟩
  have hu : ((v.toNat : Nat) : Int) = U v := rfl
  unfold caponierref02_as.f
  rw [refForm (k + 78) _, Option.bind_some, formF_at (by omega) (by omega), Int.toNat_natCast, s_list (fm x), hu]
  unfold decS
  have r7 : v.toNat / 128 % 32 < 4294967296 := by have := Nat.mod_lt (v.toNat / 128) (show 32 > 0 by decide); omega
  have r15 : v.toNat / 32768 % 32 < 4294967296 := by have := Nat.mod_lt (v.toNat / 32768) (show 32 > 0 by decide); omega
  have r20 : v.toNat / 1048576 % 32 < 4294967296 := by have := Nat.mod_lt (v.toNat / 1048576) (show 32 > 0 by decide); omega
  have g7 : caponierref02_field.f (k + 79) (U v) 7 5 = some ((v.toNat / 128 % 32 : Nat) : Int) := refFieldN v 7 5 128 32 (by decide) (by decide) (by decide) (k + 79) (Nat.le_trans (by decide) (Nat.le_add_left _ k))
  have g15 : caponierref02_field.f (k + 77) (U v) 15 5 = some ((v.toNat / 32768 % 32 : Nat) : Int) := refFieldN v 15 5 32768 32 (by decide) (by decide) (by decide) (k + 77) (Nat.le_trans (by decide) (Nat.le_add_left _ k))
  have g20 : caponierref02_field.f (k + 75) (U v) 20 5 = some ((v.toNat / 1048576 % 32 : Nat) : Int) := refFieldN v 20 5 1048576 32 (by decide) (by decide) (by decide) (k + 75) (Nat.le_trans (by decide) (Nat.le_add_left _ k))
  have e7 := refReg _ r7
  have e15 := refReg _ r15
  have e20 := refReg _ r20
  clear r7 r15 r20
  rw [hf]
  have qR : ([Fm.S.c] = ([82] : List UInt8)) = False := eq_false (by decide)
  have qI : ([Fm.S.c] = ([73] : List UInt8)) = False := eq_false (by decide)
  have qS : ([Fm.S.c] = ([83] : List UInt8)) = True := eq_true (by decide)
  have qB : ([Fm.S.c] = ([66] : List UInt8)) = False := eq_false (by decide)
  have qU : ([Fm.S.c] = ([85] : List UInt8)) = False := eq_false (by decide)
  have qJ : ([Fm.S.c] = ([74] : List UInt8)) = False := eq_false (by decide)
  have qE : ([Fm.S.c] = ([69] : List UInt8)) = False := eq_false (by decide)
  have qn : ([Fm.S.c] != ([69] : List UInt8)) = true := by decide
  have qb : ([Fm.S.c] == ([66] : List UInt8)) = false := by decide
  dsimp only
  have F0 : caponierref02_field.f (k + 74) (U v) 7 5 = some ((v.toNat / 128 % 32 : Nat) : Int) := refFieldN v 7 5 128 32 (by decide) (by decide) (by decide) (k + 74) (Nat.le_trans (by decide) (Nat.le_add_left _ k))
  have y0 : v.toNat / 128 % 32 < 32 := Nat.mod_lt _ (by decide)
  have F1 : caponierref02_field.f (k + 74) (U v) 25 7 = some ((v.toNat / 33554432 % 128 : Nat) : Int) := refFieldN v 25 7 33554432 128 (by decide) (by decide) (by decide) (k + 74) (Nat.le_trans (by decide) (Nat.le_add_left _ k))
  have y1 : v.toNat / 33554432 % 128 < 128 := Nat.mod_lt _ (by decide)
  obtain ⟨sm, s1, s2⟩ := sumS (v.toNat / 128 % 32) (v.toNat / 33554432 % 128) y0 y1
  have sg : caponierref01_Sign.f (k + 74) (((v.toNat / 128 % 32) + 32 * (v.toNat / 33554432 % 128) : Nat) : Int) 12 = some (sgn ((v.toNat / 128 % 32) + 32 * (v.toNat / 33554432 % 128)) 2048) := refSignN _ 12 2048 (by decide) (by decide) (by decide) s1 s2 (k + 74) (Nat.le_trans (by decide) (Nat.le_add_left 74 k))
  simp only [qR, qI, qS, qB, qU, qJ, qE, qn, qb, g7, g15, g20, e7, e15, e20, F0, F1, sm, sg, caponierref02_as.j0, caponierref02_as.j1, caponierref02_as.j2, caponierref02_as.j3, caponierref02_as.j4, caponierref02_as.j5, Option.bind_some, s_list, if_true, if_false, Bool.false_eq_true]
set_option maxHeartbeats 8000000 in
theorem refAs_B (k x V : Nat) (hx : x ≤ 42) (hV : V < 4294967296) (hf : fm x = .B) : caponierref02_as.f (k + 80) (V : Int) (x : Int) = some ((x : Int), decS V x) := by
  obtain ⟨v, rfl⟩ : ∃ v : BitVec 64, V = v.toNat := ⟨BitVec.ofNat 64 V, by rw [BitVec.toNat_ofNat, Nat.mod_eq_of_lt (by omega)]⟩
  have hu : ((v.toNat : Nat) : Int) = U v := rfl
  unfold caponierref02_as.f
  rw [refForm (k + 78) _, Option.bind_some, formF_at (by omega) (by omega), Int.toNat_natCast, s_list (fm x), hu]
  unfold decS
  have r7 : v.toNat / 128 % 32 < 4294967296 := by have := Nat.mod_lt (v.toNat / 128) (show 32 > 0 by decide); omega
  have r15 : v.toNat / 32768 % 32 < 4294967296 := by have := Nat.mod_lt (v.toNat / 32768) (show 32 > 0 by decide); omega
  have r20 : v.toNat / 1048576 % 32 < 4294967296 := by have := Nat.mod_lt (v.toNat / 1048576) (show 32 > 0 by decide); omega
  have g7 : caponierref02_field.f (k + 79) (U v) 7 5 = some ((v.toNat / 128 % 32 : Nat) : Int) := refFieldN v 7 5 128 32 (by decide) (by decide) (by decide) (k + 79) (Nat.le_trans (by decide) (Nat.le_add_left _ k))
  have g15 : caponierref02_field.f (k + 77) (U v) 15 5 = some ((v.toNat / 32768 % 32 : Nat) : Int) := refFieldN v 15 5 32768 32 (by decide) (by decide) (by decide) (k + 77) (Nat.le_trans (by decide) (Nat.le_add_left _ k))
  have g20 : caponierref02_field.f (k + 75) (U v) 20 5 = some ((v.toNat / 1048576 % 32 : Nat) : Int) := refFieldN v 20 5 1048576 32 (by decide) (by decide) (by decide) (k + 75) (Nat.le_trans (by decide) (Nat.le_add_left _ k))
  have e7 := refReg _ r7
  have e15 := refReg _ r15
  have e20 := refReg _ r20
  clear r7 r15 r20
  rw [hf]
  have qR : ([Fm.B.c] = ([82] : List UInt8)) = False := eq_false (by decide)
  have qI : ([Fm.B.c] = ([73] : List UInt8)) = False := eq_false (by decide)
  have qS : ([Fm.B.c] = ([83] : List UInt8)) = False := eq_false (by decide)
  have qB : ([Fm.B.c] = ([66] : List UInt8)) = True := eq_true (by decide)
  have qU : ([Fm.B.c] = ([85] : List UInt8)) = False := eq_false (by decide)
  have qJ : ([Fm.B.c] = ([74] : List UInt8)) = False := eq_false (by decide)
  have qE : ([Fm.B.c] = ([69] : List UInt8)) = False := eq_false (by decide)
  have qn : ([Fm.B.c] != ([69] : List UInt8)) = true := by decide
  have qb : ([Fm.B.c] == ([66] : List UInt8)) = true := by decide
  dsimp only
  have F0 : caponierref02_field.f (k + 74) (U v) 8 4 = some ((v.toNat / 256 % 16 : Nat) : Int) := refFieldN v 8 4 256 16 (by decide) (by decide) (by decide) (k + 74) (Nat.le_trans (by decide) (Nat.le_add_left _ k))
  have y0 : v.toNat / 256 % 16 < 16 := Nat.mod_lt _ (by decide)
  have F1 : caponierref02_field.f (k + 74) (U v) 25 6 = some ((v.toNat / 33554432 % 64 : Nat) : Int) := refFieldN v 25 6 33554432 64 (by decide) (by decide) (by decide) (k + 74) (Nat.le_trans (by decide) (Nat.le_add_left _ k))
  have y1 : v.toNat / 33554432 % 64 < 64 := Nat.mod_lt _ (by decide)
  have F2 : caponierref02_field.f (k + 74) (U v) 7 1 = some ((v.toNat / 128 % 2 : Nat) : Int) := refFieldN v 7 1 128 2 (by decide) (by decide) (by decide) (k + 74) (Nat.le_trans (by decide) (Nat.le_add_left _ k))
  have y2 : v.toNat / 128 % 2 < 2 := Nat.mod_lt _ (by decide)
  have F3 : caponierref02_field.f (k + 74) (U v) 31 1 = some ((v.toNat / 2147483648 % 2 : Nat) : Int) := refFieldN v 31 1 2147483648 2 (by decide) (by decide) (by decide) (k + 74) (Nat.le_trans (by decide) (Nat.le_add_left _ k))
  have y3 : v.toNat / 2147483648 % 2 < 2 := Nat.mod_lt _ (by decide)
  obtain ⟨sm, s1, s2⟩ := sumB (v.toNat / 256 % 16) (v.toNat / 33554432 % 64) (v.toNat / 128 % 2) (v.toNat / 2147483648 % 2) y0 y1 y2 y3
  have sg : caponierref01_Sign.f (k + 74) ((2 * (v.toNat / 256 % 16) + 32 * (v.toNat / 33554432 % 64) + 2048 * (v.toNat / 128 % 2) + 4096 * (v.toNat / 2147483648 % 2) : Nat) : Int) 13 = some (sgn (2 * (v.toNat / 256 % 16) + 32 * (v.toNat / 33554432 % 64) + 2048 * (v.toNat / 128 % 2) + 4096 * (v.toNat / 2147483648 % 2)) 4096) := refSignN _ 13 4096 (by decide) (by decide) (by decide) s1 s2 (k + 74) (Nat.le_trans (by decide) (Nat.le_add_left 74 k))
  simp only [qR, qI, qS, qB, qU, qJ, qE, qn, qb, g7, g15, g20, e7, e15, e20, F0, F1, F2, F3, sm, sg, caponierref02_as.j0, caponierref02_as.j1, caponierref02_as.j2, caponierref02_as.j3, caponierref02_as.j4, caponierref02_as.j5, Option.bind_some, s_list, if_true, if_false, Bool.false_eq_true]
set_option maxHeartbeats 8000000 in
theorem refAs_U (k x V : Nat) (hx : x ≤ 42) (hV : V < 4294967296) (hf : fm x = .U) : caponierref02_as.f (k + 80) (V : Int) (x : Int) = some ((x : Int), decS V x) := by
  obtain ⟨v, rfl⟩ : ∃ v : BitVec 64, V = v.toNat := ⟨BitVec.ofNat 64 V, by rw [BitVec.toNat_ofNat, Nat.mod_eq_of_lt (by omega)]⟩
  have hu : ((v.toNat : Nat) : Int) = U v := rfl
  unfold caponierref02_as.f
  rw [refForm (k + 78) _, Option.bind_some, formF_at (by omega) (by omega), Int.toNat_natCast, s_list (fm x), hu]
  unfold decS
  have r7 : v.toNat / 128 % 32 < 4294967296 := by have := Nat.mod_lt (v.toNat / 128) (show 32 > 0 by decide); omega
  have r15 : v.toNat / 32768 % 32 < 4294967296 := by have := Nat.mod_lt (v.toNat / 32768) (show 32 > 0 by decide); omega
  have r20 : v.toNat / 1048576 % 32 < 4294967296 := by have := Nat.mod_lt (v.toNat / 1048576) (show 32 > 0 by decide); omega
  have g7 : caponierref02_field.f (k + 79) (U v) 7 5 = some ((v.toNat / 128 % 32 : Nat) : Int) := refFieldN v 7 5 128 32 (by decide) (by decide) (by decide) (k + 79) (Nat.le_trans (by decide) (Nat.le_add_left _ k))
  have g15 : caponierref02_field.f (k + 77) (U v) 15 5 = some ((v.toNat / 32768 % 32 : Nat) : Int) := refFieldN v 15 5 32768 32 (by decide) (by decide) (by decide) (k + 77) (Nat.le_trans (by decide) (Nat.le_add_left _ k))
  have g20 : caponierref02_field.f (k + 75) (U v) 20 5 = some ((v.toNat / 1048576 % 32 : Nat) : Int) := refFieldN v 20 5 1048576 32 (by decide) (by decide) (by decide) (k + 75) (Nat.le_trans (by decide) (Nat.le_add_left _ k))
  have e7 := refReg _ r7
  have e15 := refReg _ r15
  have e20 := refReg _ r20
  clear r7 r15 r20
  rw [hf]
  have qR : ([Fm.U.c] = ([82] : List UInt8)) = False := eq_false (by decide)
  have qI : ([Fm.U.c] = ([73] : List UInt8)) = False := eq_false (by decide)
  have qS : ([Fm.U.c] = ([83] : List UInt8)) = False := eq_false (by decide)
  have qB : ([Fm.U.c] = ([66] : List UInt8)) = False := eq_false (by decide)
  have qU : ([Fm.U.c] = ([85] : List UInt8)) = True := eq_true (by decide)
  have qJ : ([Fm.U.c] = ([74] : List UInt8)) = False := eq_false (by decide)
  have qE : ([Fm.U.c] = ([69] : List UInt8)) = False := eq_false (by decide)
  have qn : ([Fm.U.c] != ([69] : List UInt8)) = true := by decide
  have qb : ([Fm.U.c] == ([66] : List UInt8)) = false := by decide
  dsimp only
  have F0 : caponierref02_field.f (k + 74) (U v) 12 20 = some ((v.toNat / 4096 % 1048576 : Nat) : Int) := refFieldN v 12 20 4096 1048576 (by decide) (by decide) (by decide) (k + 74) (Nat.le_trans (by decide) (Nat.le_add_left _ k))
  have y0 : v.toNat / 4096 % 1048576 < 1048576 := Nat.mod_lt _ (by decide)
  obtain ⟨sm, s1, s2⟩ := sumU (v.toNat / 4096 % 1048576) y0
  have sg : caponierref01_Sign.f (k + 74) ((4096 * (v.toNat / 4096 % 1048576) : Nat) : Int) 32 = some (sgn (4096 * (v.toNat / 4096 % 1048576)) 2147483648) := refSignN _ 32 2147483648 (by decide) (by decide) (by decide) s1 s2 (k + 74) (Nat.le_trans (by decide) (Nat.le_add_left 74 k))
  simp only [qR, qI, qS, qB, qU, qJ, qE, qn, qb, g7, g15, g20, e7, e15, e20, F0, sm, sg, caponierref02_as.j0, caponierref02_as.j1, caponierref02_as.j2, caponierref02_as.j3, caponierref02_as.j4, caponierref02_as.j5, Option.bind_some, s_list, if_true, if_false, Bool.false_eq_true]
set_option maxHeartbeats 8000000 in
theorem refAs_J (k x V : Nat) (hx : x ≤ 42) (hV : V < 4294967296) (hf : fm x = .J) : caponierref02_as.f (k + 80) (V : Int) (x : Int) = some ((x : Int), decS V x) := by
  obtain ⟨v, rfl⟩ : ∃ v : BitVec 64, V = v.toNat := ⟨BitVec.ofNat 64 V, by rw [BitVec.toNat_ofNat, Nat.mod_eq_of_lt (by omega)]⟩
  have hu : ((v.toNat : Nat) : Int) = U v := rfl
  unfold caponierref02_as.f
  rw [refForm (k + 78) _, Option.bind_some, formF_at (by omega) (by omega), Int.toNat_natCast, s_list (fm x), hu]
  unfold decS
  have r7 : v.toNat / 128 % 32 < 4294967296 := by have := Nat.mod_lt (v.toNat / 128) (show 32 > 0 by decide); omega
  have r15 : v.toNat / 32768 % 32 < 4294967296 := by have := Nat.mod_lt (v.toNat / 32768) (show 32 > 0 by decide); omega
  have r20 : v.toNat / 1048576 % 32 < 4294967296 := by have := Nat.mod_lt (v.toNat / 1048576) (show 32 > 0 by decide); omega
  have g7 : caponierref02_field.f (k + 79) (U v) 7 5 = some ((v.toNat / 128 % 32 : Nat) : Int) := refFieldN v 7 5 128 32 (by decide) (by decide) (by decide) (k + 79) (Nat.le_trans (by decide) (Nat.le_add_left _ k))
  have g15 : caponierref02_field.f (k + 77) (U v) 15 5 = some ((v.toNat / 32768 % 32 : Nat) : Int) := refFieldN v 15 5 32768 32 (by decide) (by decide) (by decide) (k + 77) (Nat.le_trans (by decide) (Nat.le_add_left _ k))
  have g20 : caponierref02_field.f (k + 75) (U v) 20 5 = some ((v.toNat / 1048576 % 32 : Nat) : Int) := refFieldN v 20 5 1048576 32 (by decide) (by decide) (by decide) (k + 75) (Nat.le_trans (by decide) (Nat.le_add_left _ k))
  have e7 := refReg _ r7
  have e15 := refReg _ r15
  have e20 := refReg _ r20
  clear r7 r15 r20
  rw [hf]
  have qR : ([Fm.J.c] = ([82] : List UInt8)) = False := eq_false (by decide)
  have qI : ([Fm.J.c] = ([73] : List UInt8)) = False := eq_false (by decide)
  have qS : ([Fm.J.c] = ([83] : List UInt8)) = False := eq_false (by decide)
  have qB : ([Fm.J.c] = ([66] : List UInt8)) = False := eq_false (by decide)
  have qU : ([Fm.J.c] = ([85] : List UInt8)) = False := eq_false (by decide)
  have qJ : ([Fm.J.c] = ([74] : List UInt8)) = True := eq_true (by decide)
  have qE : ([Fm.J.c] = ([69] : List UInt8)) = False := eq_false (by decide)
  have qn : ([Fm.J.c] != ([69] : List UInt8)) = true := by decide
  have qb : ([Fm.J.c] == ([66] : List UInt8)) = false := by decide
  dsimp only
  have F0 : caponierref02_field.f (k + 74) (U v) 21 10 = some ((v.toNat / 2097152 % 1024 : Nat) : Int) := refFieldN v 21 10 2097152 1024 (by decide) (by decide) (by decide) (k + 74) (Nat.le_trans (by decide) (Nat.le_add_left _ k))
  have y0 : v.toNat / 2097152 % 1024 < 1024 := Nat.mod_lt _ (by decide)
  have F1 : caponierref02_field.f (k + 74) (U v) 20 1 = some ((v.toNat / 1048576 % 2 : Nat) : Int) := refFieldN v 20 1 1048576 2 (by decide) (by decide) (by decide) (k + 74) (Nat.le_trans (by decide) (Nat.le_add_left _ k))
  have y1 : v.toNat / 1048576 % 2 < 2 := Nat.mod_lt _ (by decide)
  have F2 : caponierref02_field.f (k + 74) (U v) 12 8 = some ((v.toNat / 4096 % 256 : Nat) : Int) := refFieldN v 12 8 4096 256 (by decide) (by decide) (by decide) (k + 74) (Nat.le_trans (by decide) (Nat.le_add_left _ k))
  have y2 : v.toNat / 4096 % 256 < 256 := Nat.mod_lt _ (by decide)
  have F3 : caponierref02_field.f (k + 74) (U v) 31 1 = some ((v.toNat / 2147483648 % 2 : Nat) : Int) := refFieldN v 31 1 2147483648 2 (by decide) (by decide) (by decide) (k + 74) (Nat.le_trans (by decide) (Nat.le_add_left _ k))
  have y3 : v.toNat / 2147483648 % 2 < 2 := Nat.mod_lt _ (by decide)
  obtain ⟨sm, s1, s2⟩ := sumJ (v.toNat / 2097152 % 1024) (v.toNat / 1048576 % 2) (v.toNat / 4096 % 256) (v.toNat / 2147483648 % 2) y0 y1 y2 y3
  have sg : caponierref01_Sign.f (k + 74) ((2 * (v.toNat / 2097152 % 1024) + 2048 * (v.toNat / 1048576 % 2) + 4096 * (v.toNat / 4096 % 256) + 1048576 * (v.toNat / 2147483648 % 2) : Nat) : Int) 21 = some (sgn (2 * (v.toNat / 2097152 % 1024) + 2048 * (v.toNat / 1048576 % 2) + 4096 * (v.toNat / 4096 % 256) + 1048576 * (v.toNat / 2147483648 % 2)) 1048576) := refSignN _ 21 1048576 (by decide) (by decide) (by decide) s1 s2 (k + 74) (Nat.le_trans (by decide) (Nat.le_add_left 74 k))
  simp only [qR, qI, qS, qB, qU, qJ, qE, qn, qb, g7, g15, g20, e7, e15, e20, F0, F1, F2, F3, sm, sg, caponierref02_as.j0, caponierref02_as.j1, caponierref02_as.j2, caponierref02_as.j3, caponierref02_as.j4, caponierref02_as.j5, Option.bind_some, s_list, if_true, if_false, Bool.false_eq_true]
set_option maxHeartbeats 8000000 in
theorem refAs_E (k x V : Nat) (hx : x ≤ 42) (hV : V < 4294967296) (hf : fm x = .E) : caponierref02_as.f (k + 80) (V : Int) (x : Int) = some ((x : Int), decS V x) := by
  obtain ⟨v, rfl⟩ : ∃ v : BitVec 64, V = v.toNat := ⟨BitVec.ofNat 64 V, by rw [BitVec.toNat_ofNat, Nat.mod_eq_of_lt (by omega)]⟩
  have hu : ((v.toNat : Nat) : Int) = U v := rfl
  unfold caponierref02_as.f
  rw [refForm (k + 78) _, Option.bind_some, formF_at (by omega) (by omega), Int.toNat_natCast, s_list (fm x), hu]
  unfold decS
  have r7 : v.toNat / 128 % 32 < 4294967296 := by have := Nat.mod_lt (v.toNat / 128) (show 32 > 0 by decide); omega
  have r15 : v.toNat / 32768 % 32 < 4294967296 := by have := Nat.mod_lt (v.toNat / 32768) (show 32 > 0 by decide); omega
  have r20 : v.toNat / 1048576 % 32 < 4294967296 := by have := Nat.mod_lt (v.toNat / 1048576) (show 32 > 0 by decide); omega
  have g7 : caponierref02_field.f (k + 79) (U v) 7 5 = some ((v.toNat / 128 % 32 : Nat) : Int) := refFieldN v 7 5 128 32 (by decide) (by decide) (by decide) (k + 79) (Nat.le_trans (by decide) (Nat.le_add_left _ k))
  have g15 : caponierref02_field.f (k + 77) (U v) 15 5 = some ((v.toNat / 32768 % 32 : Nat) : Int) := refFieldN v 15 5 32768 32 (by decide) (by decide) (by decide) (k + 77) (Nat.le_trans (by decide) (Nat.le_add_left _ k))
  have g20 : caponierref02_field.f (k + 75) (U v) 20 5 = some ((v.toNat / 1048576 % 32 : Nat) : Int) := refFieldN v 20 5 1048576 32 (by decide) (by decide) (by decide) (k + 75) (Nat.le_trans (by decide) (Nat.le_add_left _ k))
  have e7 := refReg _ r7
  have e15 := refReg _ r15
  have e20 := refReg _ r20
  clear r7 r15 r20
  rw [hf]
  have qR : ([Fm.E.c] = ([82] : List UInt8)) = False := eq_false (by decide)
  have qI : ([Fm.E.c] = ([73] : List UInt8)) = False := eq_false (by decide)
  have qS : ([Fm.E.c] = ([83] : List UInt8)) = False := eq_false (by decide)
  have qB : ([Fm.E.c] = ([66] : List UInt8)) = False := eq_false (by decide)
  have qU : ([Fm.E.c] = ([85] : List UInt8)) = False := eq_false (by decide)
  have qJ : ([Fm.E.c] = ([74] : List UInt8)) = False := eq_false (by decide)
  have qE : ([Fm.E.c] = ([69] : List UInt8)) = True := eq_true (by decide)
  have qn : ([Fm.E.c] != ([69] : List UInt8)) = false := by decide
  have qb : ([Fm.E.c] == ([66] : List UInt8)) = false := by decide
  dsimp only
  simp only [qR, qI, qS, qB, qU, qJ, qE, qn, qb, g7, g15, g20, e7, e15, e20, caponierref02_as.j0, caponierref02_as.j1, caponierref02_as.j2, caponierref02_as.j3, caponierref02_as.j4, caponierref02_as.j5, Option.bind_some, s_list, if_true, if_false, Bool.false_eq_true]
theorem refAs (k x V : Nat) (hx : x ≤ 42) (hV : V < 4294967296) : caponierref02_as.f (k + 80) (V : Int) (x : Int) = some ((x : Int), decS V x) := by
  cases hf : fm x
  · exact refAs_R k x V hx hV hf
  · cases hs : shf x
    · exact refAs_I0 k x V hx hV hf hs
    · exact refAs_I1 k x V hx hV hf hs
  · exact refAs_S k x V hx hV hf
  · exact refAs_B k x V hx hV hf
  · exact refAs_U k x V hx hV hf
  · exact refAs_J k x V hx hV hf
  · exact refAs_E k x V hx hV hf
def okR (V : Nat) : Option (Nat × Int × Int × Int × Int) → Prop
  | some (y, d, a, b, n) => MayS (y : Int) d a b n ∧ encS y d a b n = (V : Int)
  | none => ∀ (y : Nat) (d a b n : Int), MayS (y : Int) d a b n → encS y d a b n ≠ (V : Int)
def leR (x : Nat) : Option (Nat × Int × Int × Int × Int) → Prop
  | some (y, _) => x ≤ y
  | none => True
def outR : Option (Nat × Int × Int × Int × Int) → Option (Int × Int × Int × Int × Int × Int)
  | some (y, d, a, b, n) => some ((y : Int), d, a, b, n, 0)
  | none => some (0, 0, 0, 0, 0, 3)
theorem refDec_l (V : Nat) (hV : V < 4294967296) (R : Option (Nat × Int × Int × Int × Int)) (hR : okR V R) (j : Nat) :
    ∀ x : Nat, x + j = 43 → leR x R → ∀ k, j + 81 ≤ k → caponierref02_Decode.l0 k (V : Int) (x : Int) = outR R := by
  induction j with
  | zero =>
    intro x hx hle k hk
    obtain ⟨k, rfl⟩ : ∃ m, k = m + 1 := ⟨k - 1, by omega⟩
    cases R with
    | none =>
      simp only [caponierref02_Decode.l0]
      rw [if_neg (by omega)]
      rfl
    | some q =>
      obtain ⟨y, d, a, b, n⟩ := q
      have h1 := hR.1.op1
      have hle' : x ≤ y := hle
      omega
  | succ j ih =>
    intro x hx hle k hk
    obtain ⟨k, rfl⟩ : ∃ m, k = m + 1 := ⟨k - 1, by omega⟩
    obtain ⟨q, hq⟩ : ∃ q, q + 80 = k := ⟨k - 80, by omega⟩
    have hA := refAs q x V (by omega) hV
    rw [hq] at hA
    have hq2 : q + 10 + 70 = k := by omega
    simp only [caponierref02_Decode.l0]
    rw [if_pos (by omega), hA, Option.bind_some]
    dsimp only
    have nxt := ih (x + 1) (by omega)
    have wr : wrap64 ((x : Int) + 1) = ((x + 1 : Nat) : Int) := by rw [wrap_in (by omega) (by omega)]; omega
    rw [wr]
    by_cases hm : MayS (x : Int) (decS V x).1 (decS V x).2.1 (decS V x).2.2.1 (decS V x).2.2.2 ∧ encS x (decS V x).1 (decS V x).2.1 (decS V x).2.2.1 (decS V x).2.2.2 = (V : Int)
    · have e := refEnc_yes (q + 10) (x : Int) _ _ _ _ hm.1
      rw [hq2] at e
      rw [e, Option.bind_some]
      dsimp only
      rw [Int.toNat_natCast, if_pos rfl, if_pos hm.2]
      cases R with
      | none => exact absurd hm.2 (hR _ _ _ _ _ hm.1)
      | some q =>
        obtain ⟨y, d, a, b, n⟩ := q
        have g := encS_inj hm.1 hR.1 (by rw [Int.toNat_natCast, Int.toNat_natCast, hm.2, hR.2])
        obtain ⟨g0, g1, g2, g3, g4⟩ := g
        rw [g0, g1, g2, g3, g4]
        rfl
    · have st : leR (x + 1) R := by
        cases R with
        | none => trivial
        | some q =>
          obtain ⟨y, d, a, b, n⟩ := q
          have hle' : x ≤ y := hle
          rcases Nat.lt_or_eq_of_le hle' with h | h
          · exact h
          · subst h
            exfalso
            apply hm
            obtain ⟨_, hD, _⟩ := encS_ok V x d a b n hV hR.1 hR.2
            rw [hD]
            exact hR
      have go := nxt st k (by omega)
      by_cases hm2 : MayS (x : Int) (decS V x).1 (decS V x).2.1 (decS V x).2.2.1 (decS V x).2.2.2
      · have e := refEnc_yes (q + 10) (x : Int) _ _ _ _ hm2
        rw [hq2] at e
        rw [e, Option.bind_some]
        dsimp only
        rw [Int.toNat_natCast, if_pos rfl, if_neg (fun h => hm ⟨hm2, h⟩)]
        exact go
      · have e := refEnc_no (q + 10) (x : Int) _ _ _ _ hm2
        rw [hq2] at e
        rw [e, Option.bind_some]
        dsimp only
        rw [if_neg (by decide)]
        exact go
theorem wf_range {x d a b n : Int} (m : MayS x d a b n) : (Lit.int .i64 n).wf = true := by
  have hi := m.imm
  refine WalkArith.wf_i64 ?_
  unfold immS at hi
  cases hf : fm x.toNat <;> rw [hf] at hi <;> dsimp only at hi
  · omega
  · split at hi <;> omega
  · omega
  · omega
  · omega
  · omega
  · omega
theorem InsDecodes : caponierlaw02_InsDecodes.Pure := by
  intro a0 h0
  refine ⟨124, ?_⟩
  have w0 : 0 ≤ a0 ∧ a0 < 4294967296 := by
    simp [Lit.wf, IntKind.min, IntKind.max, IntKind.signed, IntKind.bits] at h0; omega
  obtain ⟨V, rfl⟩ := Int.eq_ofNat_of_zero_le w0.1
  have hV : V < 4294967296 := by omega
  have ee : ∀ op d a b n, ins_Encode.f op d a b n = encO op d a b n := fun _ _ _ _ _ => rfl
  have em : ∀ op d a b n, ins_May.f op d a b n = mayO op d a b n := fun _ _ _ _ _ => rfl
  have ed : ins_Decode.f (V : Int) = decO (V : Int) := rfl
  unfold caponierlaw02_InsDecodes.f caponierref02_Decode.f
  rw [awake_is, Option.bind_some, if_pos rfl, ed]
  rcases decO_cases (V : Int) w0.1 w0.2 with ⟨x, d, a, b, n, m, e, hd⟩ | ⟨hno, hd⟩
  · obtain ⟨y, rfl⟩ := Int.eq_ofNat_of_zero_le m.op0
    rw [Int.toNat_natCast] at e
    have g := refDec_l V hV (some (y, d, a, b, n)) ⟨m, e⟩ 43 0 rfl (Nat.zero_le _) 124 (by omega)
    rw [hd, Option.bind_some]
    have g' : caponierref02_Decode.l0 124 (V : Int) 0 = some ((y : Int), d, a, b, n, 0) := g
    rw [g', Option.bind_some]
    dsimp only
    simp only [beq_self_eq_true, Bool.not_true, Bool.or_self, Bool.false_eq_true, if_false, bne_self_eq_false, caponierlaw02_InsDecodes.j0, if_true, ee, em]
    rw [encO_yes (wf_range m) m, mayO_yes (wf_range m) m]
    simp [e]
  · have g := refDec_l V hV none (fun y d a b n m => by have := hno (y : Int) d a b n m; rwa [Int.toNat_natCast] at this) 43 0 rfl trivial 124 (by omega)
    rw [hd, Option.bind_some]
    have g' : caponierref02_Decode.l0 124 (V : Int) 0 = some (0, 0, 0, 0, 0, 3) := g
    rw [g', Option.bind_some]
    dsimp only
    simp [caponierlaw02_InsDecodes.j0]
end Go.Proofs.YtbdlhhajblhmiaaDoor.Pure
