/- Plain laws of package ins: what may be an instruction, and its word, as numbers. -/
import Derived.Test.YtbdlhhajblhmiaaDoorInsN
set_option linter.unusedVariables false
set_option linter.unusedSimpArgs false
namespace Go.Proofs.YtbdlhhajblhmiaaDoor.Ins
open Go Go.RowKit Go.Proofs Go.Proofs.YtbdlhhajblhmiaaDoorW.PrintWords Go.Proofs.YtbdlhhajblhmiaaDoor.Bv Go.Proofs.YtbdlhhajblhmiaaDoor.Bw Go.Proofs.YtbdlhhajblhmiaaDoor.BL Go.Proofs.YtbdlhhajblhmiaaDoor.QEncode Go.Maps

theorem may_in {a0 a1 a2 a3 : Int} (z : BitVec 64) : mayO a0 a1 a2 a3 (S z) = some (mayF a0 a1 a2 a3 z) := by
  unfold mayO
  rw [ofS, if_pos rfl]
theorem enc_in {a0 a1 a2 a3 : Int} (z : BitVec 64) : encO a0 a1 a2 a3 (S z) = if mayF a0 a1 a2 a3 z = true then some (encV a0 a1 a2 a3 z, 0) else some (0, 1) := by
  unfold encO
  rw [ofS, if_pos rfl]
theorem zero_S : (0 : Int) = S 0#64 := rfl
theorem may_zero (op : Int) (h0 : 0 ≤ op) (h1 : op ≤ 42) : mayO op 0 0 0 0 = some true := by
  have g : ∀ n : Fin 43, mayF ((n.val : Nat) : Int) 0 0 0 0#64 = true := by decide +kernel
  have e := g ⟨op.toNat, by omega⟩
  have e2 : ((op.toNat : Nat) : Int) = op := by omega
  dsimp only at e
  rw [e2] at e
  rw [show mayO op 0 0 0 0 = mayO op 0 0 0 (S 0#64) from rfl, may_in, e]
theorem may_bad (op rd : Int) (h : 32 ≤ rd) : mayO op rd 0 0 0 = some false := by
  rw [show mayO op rd 0 0 0 = mayO op rd 0 0 (S 0#64) from rfl, may_in]
  have e : regB rd (fm op.toNat).d = false := by
    unfold regB
    rw [decide_eq_false]
    rintro (h | ⟨_, _, h⟩) <;> omega
  unfold mayF
  rw [e]; simp
theorem may_none (op a1 a2 a3 : Int) (h : ¬ (0 ≤ op ∧ op ≤ 42)) (z : BitVec 64) : mayF op a1 a2 a3 z = false := by
  unfold mayF
  rw [decide_eq_false h]; simp
theorem form_empty (op : Int) : (formF op).toList = ([] : List UInt8) ↔ ¬ (0 ≤ op ∧ op ≤ 42) := by
  unfold formF
  by_cases h : 0 ≤ op ∧ op ≤ 42
  · rw [if_pos h]
    have g : ∀ f : Fm, ¬ (f.s.toList = ([] : List UInt8)) := fun f => by cases f <;> decide +kernel
    exact ⟨fun e => absurd e (g _), fun e => absurd h e⟩
  · rw [if_neg h]
    exact ⟨fun _ => h, fun _ => by decide +kernel⟩

/-! ### 1. Words as numbers -/
theorem pt_toNat (v x : BitVec 64) (f n : Nat) (h : f + n ≤ 64) : (pt v f n x).toNat = v.toNat % 2 ^ f + x.toNat % 2 ^ n * 2 ^ f + v.toNat / 2 ^ (f + n) * 2 ^ (f + n) := by
  have hv := v.isLt
  have hx : x.toNat % 2 ^ n < 2 ^ n := Nat.mod_lt _ (Nat.pow_pos (by decide))
  have hl : v.toNat % 2 ^ f < 2 ^ f := Nat.mod_lt _ (Nat.pow_pos (by decide))
  have e1 : v.toNat % 2 ^ f + x.toNat % 2 ^ n * 2 ^ f + v.toNat / 2 ^ (f + n) * 2 ^ (f + n) = 2 ^ f * (2 ^ n * (v.toNat / 2 ^ (f + n)) + x.toNat % 2 ^ n) + v.toNat % 2 ^ f := by
    rw [Nat.mul_add, ← Nat.mul_assoc, ← Nat.pow_add, Nat.mul_comm (v.toNat / _), Nat.mul_comm (x.toNat % _)]
    omega
  rw [e1]
  have hr : 2 ^ f * (2 ^ n * (v.toNat / 2 ^ (f + n)) + x.toNat % 2 ^ n) + v.toNat % 2 ^ f < 2 ^ 64 := by
    have a1 : 2 ^ n * (v.toNat / 2 ^ (f + n)) + x.toNat % 2 ^ n < 2 ^ n * (v.toNat / 2 ^ (f + n) + 1) := by rw [Nat.mul_add]; omega
    have a2 : v.toNat / 2 ^ (f + n) < 2 ^ (64 - (f + n)) := by
      rw [Nat.div_lt_iff_lt_mul (Nat.pow_pos (by decide)), ← Nat.pow_add, show 64 - (f + n) + (f + n) = 64 by omega]; exact hv
    have a3 : 2 ^ n * (v.toNat / 2 ^ (f + n) + 1) ≤ 2 ^ n * 2 ^ (64 - (f + n)) := Nat.mul_le_mul_left _ a2
    have a4 : 2 ^ f * (2 ^ n * (v.toNat / 2 ^ (f + n)) + x.toNat % 2 ^ n + 1) ≤ 2 ^ f * (2 ^ n * 2 ^ (64 - (f + n))) := Nat.mul_le_mul_left _ (Nat.le_trans a1 a3)
    rw [← Nat.mul_assoc, ← Nat.pow_add, ← Nat.pow_add, show f + n + (64 - (f + n)) = 64 by omega, Nat.mul_add (2 ^ f) _ 1] at a4
    omega
  have key : BitVec.ofNat 64 (2 ^ f * (2 ^ n * (v.toNat / 2 ^ (f + n)) + x.toNat % 2 ^ n) + v.toNat % 2 ^ f) = pt v f n x := by
    refine ext64 fun i hi => ?_
    rw [bit_pt _ _ _ _ h _ hi]
    show (BitVec.ofNat 64 _).toNat.testBit i = _
    rw [BitVec.toNat_ofNat, Nat.mod_eq_of_lt hr, Nat.testBit_two_pow_mul_add _ hl]
    by_cases h1 : i < f
    · rw [if_pos h1, if_neg (by omega), Nat.testBit_mod_two_pow]; simp [h1]; rfl
    · rw [if_neg h1, Nat.testBit_two_pow_mul_add _ hx]
      by_cases h2 : i - f < n
      · rw [if_pos h2, if_pos (by omega), Nat.testBit_mod_two_pow]; simp [h2]; rfl
      · rw [if_neg h2, if_neg (by omega), Nat.testBit_div_two_pow]
        show v.toNat.testBit _ = v.toNat.testBit _
        congr 1; omega
  rw [← key, BitVec.toNat_ofNat, Nat.mod_eq_of_lt hr]
theorem or_add (a b k : Nat) (ha : a < 2 ^ k) (hb : a + b * 2 ^ k < 2 ^ 64) : Go.bits .or .u64 (a : Int) ((b * 2 ^ k : Nat) : Int) = ((a + b * 2 ^ k : Nat) : Int) := by
  show IntKind.u64.wrap ((BitVec.ofInt 64 (a : Int) ||| BitVec.ofInt 64 ((b * 2 ^ k : Nat) : Int)).toNat : Int) = _
  rw [BitVec.ofInt_natCast, BitVec.ofInt_natCast, BitVec.toNat_or, BitVec.toNat_ofNat, BitVec.toNat_ofNat, Nat.mod_eq_of_lt (by omega), Nat.mod_eq_of_lt (by omega), Nat.or_comm, Nat.mul_comm, ← Nat.two_pow_add_eq_or_of_lt ha, Nat.add_comm]
  rw [IntKind.wrap_u64]
  rw [Nat.mul_comm] at hb
  omega
theorem wrapu_nat (n : Nat) (h : n < 18446744073709551616) : IntKind.u64.wrap (n : Int) = (n : Int) := by rw [IntKind.wrap_u64]; omega
theorem base_nat (l d k a b : Nat) (hl : l < 128) (hd : d < 32) (hk : k < 8) (ha : a < 32) (hb : b < 32) :
    (baseW (l : Int) (d : Int) (k : Int) (a : Int) (b : Int)).toNat = l + d * 128 + k * 4096 + a * 32768 + b * 1048576 := by
  have e : baseE (l : Int) (d : Int) (k : Int) (a : Int) (b : Int) = ((l + d * 128 + k * 4096 + a * 32768 + b * 1048576 : Nat) : Int) := by
    unfold baseE
    rw [wrapu_nat d (by omega), wrapu_nat a (by omega), wrapu_nat b (by omega)]
    rw [show (d : Int) * 128 = ((d * 2 ^ 7 : Nat) : Int) by omega, show (k : Int) * 4096 = ((k * 2 ^ 12 : Nat) : Int) by omega, show (a : Int) * 32768 = ((a * 2 ^ 15 : Nat) : Int) by omega, show (b : Int) * 1048576 = ((b * 2 ^ 20 : Nat) : Int) by omega]
    rw [wrapu_nat _ (by omega), wrapu_nat _ (by omega), wrapu_nat _ (by omega), wrapu_nat _ (by omega)]
    rw [or_add l d 7 (by omega) (by omega), or_add _ k 12 (by omega) (by omega), or_add _ a 15 (by omega) (by omega), or_add _ b 20 (by omega) (by omega)]
  have g := base_eq (l : Int) (d : Int) (k : Int) (a : Int) (b : Int)
  rw [e] at g
  unfold U at g
  omega
theorem head_nat (l d : Nat) (hl : l < 128) (hd : d < 32) : (headW (l : Int) (d : Int)).toNat = l + d * 128 := by
  have e : headE (l : Int) (d : Int) = ((l + d * 128 : Nat) : Int) := by
    unfold headE
    rw [wrapu_nat d (by omega), show (d : Int) * 128 = ((d * 2 ^ 7 : Nat) : Int) by omega, wrapu_nat _ (by omega), or_add l d 7 (by omega) (by omega)]
  have g := head_eq (l : Int) (d : Int)
  rw [e] at g
  unfold U at g
  omega
theorem sh_nat (z : BitVec 64) (t : Nat) (hz : z.toNat < 64) (ht : t < 128) : (shW z (t : Int)).toNat = z.toNat + t * 64 := by
  have g := sh_eq z (t : Int)
  rw [show (t : Int) * 64 = ((t * 2 ^ 6 : Nat) : Int) by omega, wrapu_nat _ (by omega)] at g
  have e : U z = ((z.toNat : Nat) : Int) := rfl
  rw [e, or_add z.toNat t 6 (by omega) (by omega)] at g
  unfold U at g
  omega
theorem S_nat (z : BitVec 64) : S z = if z.toNat < 9223372036854775808 then (z.toNat : Int) else (z.toNat : Int) - 18446744073709551616 := by
  unfold S
  rw [BitVec.toInt_eq_toNat_bmod, Int.bmod_def]
  have := z.isLt
  split <;> split <;> omega
theorem S_sg (v : BitVec 64) (n : Nat) (h1 : 1 ≤ n) (h2 : n ≤ 64) : S (sg v n) = if (v.toNat : Int) % 2 ^ n < (2 ^ n + 1) / 2 then (v.toNat : Int) % 2 ^ n else (v.toNat : Int) % 2 ^ n - 2 ^ n := by
  unfold S
  rw [sg_toInt v n h1 h2, Int.bmod_def]
  have e : ((2 ^ n : Nat) : Int) = 2 ^ n := by simp
  rw [e]
theorem sg_same (v : BitVec 64) (n : Nat) : sg v n = v ↔ S (sg v n) = S v := by
  constructor
  · intro h; rw [h]
  · intro h; exact S_inj.1 h

/-! ### 2. The instruction, said plainly -/
theorem lo_lt (x : Nat) : lo x < 128 := by unfold lo; (repeat' split) <;> omega
theorem kd_lt (x : Nat) : kd x < 8 := by
  unfold kd
  by_cases h : x < 43
  · have : ∀ m : Fin 43, [0, 0, 1, 2, 3, 4, 5, 5, 6, 7, 0, 3, 4, 5, 6, 7, 0, 2, 3, 4, 6, 7, 1, 5, 5, 0, 4, 2, 3, 0, 2, 3, 0, 1, 4, 5, 6, 7, 0, 0, 0, 0, 0].getD m.val 0 < 8 := by decide
    exact this ⟨x, h⟩
  · rw [List.getD_eq_getElem?_getD, List.getElem?_eq_none (by simp; omega)]; simp
theorem tp_lt (x : Nat) : tp x < 64 := by unfold tp; (repeat' split) <;> omega
/-- Whether an operation shifts by a number. -/
def shf (x : Nat) : Bool := decide (22 ≤ x ∧ x ≤ 24)
def immS (f : Fm) (s : Bool) (n : Int) : Prop :=
  match f with
  | .I => if s then 0 ≤ n ∧ n < 64 else -2048 ≤ n ∧ n < 2048
  | .S => -2048 ≤ n ∧ n < 2048
  | .B => -4096 ≤ n ∧ n < 4096 ∧ n % 2 = 0
  | .U => -2147483648 ≤ n ∧ n < 2147483648 ∧ n % 4096 = 0
  | .J => -1048576 ≤ n ∧ n < 1048576 ∧ n % 2 = 0
  | _ => n = 0
def regS (r : Int) (has : Bool) : Prop := 0 ≤ r ∧ r < 32 ∧ (has = false → r = 0)
/-- What may be an instruction. -/
structure MayS (op d a b n : Int) : Prop where
  op0 : 0 ≤ op
  op1 : op ≤ 42
  rd : regS d (fm op.toNat).d
  r1 : regS a (fm op.toNat).a
  r2 : regS b (fm op.toNat).b
  imm : immS (fm op.toNat) (shf op.toNat) n
/-- Its word. -/
def encS (x : Nat) (d a b n : Int) : Int :=
  match fm x with
  | .R => lo x + 128 * d + 4096 * kd x + 32768 * a + 1048576 * b + 33554432 * tp x
  | .I => lo x + 128 * d + 4096 * kd x + 32768 * a + 1048576 * (if shf x then n + 64 * tp x else n % 4096)
  | .S => lo x + 128 * (n % 32) + 4096 * kd x + 32768 * a + 1048576 * b + 33554432 * (n / 32 % 128)
  | .B => lo x + 128 * (n / 2048 % 2) + 256 * (n / 2 % 16) + 4096 * kd x + 32768 * a + 1048576 * b + 33554432 * (n / 32 % 64) + 2147483648 * (n / 4096 % 2)
  | .U => lo x + 128 * d + 4096 * (n / 4096 % 1048576)
  | .J => lo x + 128 * d + 4096 * (n / 4096 % 256) + 1048576 * (n / 2048 % 2) + 2097152 * (n / 2 % 1024) + 2147483648 * (n / 1048576 % 2)
  | .E => 1048691
theorem reg_iff (n : Int) (has : Bool) : regB n has = true ↔ regS n has := by
  unfold regB regS
  rw [decide_eq_true_eq]
  cases has with
  | true => simp; omega
  | false => simp; omega
theorem i64w (n : Int) : IntKind.i64.wrap n = wrap64 n := by unfold wrap64; exact IntKind.wrap_i64 n
theorem and_one (z : BitVec 64) : (Go.bits .and .i64 (S z) 1 == 0) = decide (S z % 2 = 0) := by
  show (IntKind.i64.wrap ((BitVec.ofInt 64 (S z) &&& BitVec.ofInt 64 1).toNat : Int) == 0) = _
  rw [ofS, BitVec.toNat_and, show (BitVec.ofInt 64 1).toNat = 2 ^ 1 - 1 from rfl, Nat.and_two_pow_sub_one_eq_mod]
  have hs := S_nat z
  rw [Bool.eq_iff_iff, beq_iff_eq, decide_eq_true_eq]
  have e : IntKind.i64.wrap ((z.toNat % 2 ^ 1 : Nat) : Int) = ((z.toNat % 2 ^ 1 : Nat) : Int) := (show IntKind.i64.wrap _ = wrap64 _ from i64w _).trans (wrap_in (by omega) (by omega))
  rw [e]
  have := z.isLt
  split at hs <;> omega
theorem and_4095 (z : BitVec 64) : (Go.bits .and .i64 (S z) 4095 == 0) = decide (S z % 4096 = 0) := by
  show (IntKind.i64.wrap ((BitVec.ofInt 64 (S z) &&& BitVec.ofInt 64 4095).toNat : Int) == 0) = _
  rw [ofS, BitVec.toNat_and, show (BitVec.ofInt 64 4095).toNat = 2 ^ 12 - 1 from rfl, Nat.and_two_pow_sub_one_eq_mod]
  have hs := S_nat z
  rw [Bool.eq_iff_iff, beq_iff_eq, decide_eq_true_eq]
  have e : IntKind.i64.wrap ((z.toNat % 2 ^ 12 : Nat) : Int) = ((z.toNat % 2 ^ 12 : Nat) : Int) := (show IntKind.i64.wrap _ = wrap64 _ from i64w _).trans (wrap_in (by omega) (by omega))
  rw [e]
  have := z.isLt
  split at hs <;> omega
theorem sg_fits (z : BitVec 64) (n : Nat) (h1 : 1 ≤ n) (h2 : n ≤ 64) (M : Int) (hM : (2 : Int) ^ n = 2 * M) : sg z n = z ↔ -M ≤ S z ∧ S z < M := by
  rw [sg_same, S_sg z n h1 h2, hM]
  have hs := S_nat z
  have hz := z.isLt
  have hp : (2 : Int) ^ n ≤ 18446744073709551616 := by
    have : (2 : Nat) ^ n ≤ 2 ^ 64 := Nat.pow_le_pow_right (by decide) h2
    have e : ((2 ^ n : Nat) : Int) ≤ ((2 ^ 64 : Nat) : Int) := Int.ofNat_le.2 this
    simpa using e
  have h0 : 0 < (2 : Int) ^ n := Int.pow_pos (by decide)
  have hd : (2 : Int) ^ n ∣ 18446744073709551616 := ⟨2 ^ (64 - n), by rw [← Int.pow_add, show n + (64 - n) = 64 by omega]; rfl⟩
  have hmod : (S z) % (2 * M) = (z.toNat : Int) % (2 * M) := by
    split at hs
    · rw [hs]
    · rw [hs, ← hM, Int.sub_emod, Int.emod_eq_zero_of_dvd hd, Int.sub_zero, Int.emod_emod]
  rw [← hmod]
  rw [hM] at hp h0
  have hdm := Int.emod_add_mul_ediv (S z) (2 * M)
  have hr0 := Int.emod_nonneg (S z) (show 2 * M ≠ 0 by omega)
  have hr1 := Int.emod_lt_of_pos (S z) h0
  constructor
  · intro h; split at h <;> omega
  · intro h
    by_cases hp : 0 ≤ S z
    · rw [Int.emod_eq_of_lt hp (by omega), if_pos (by omega)]
    · have : S z % (2 * M) = S z + 2 * M := by
        rw [← Int.add_emod_right, Int.emod_eq_of_lt (by omega) (by omega)]
      rw [this, if_neg (by omega)]; omega
theorem imm_iff (x : Nat) (z : BitVec 64) : immB (fm x) (decide (22 ≤ (x : Int) ∧ (x : Int) ≤ 24)) z = true ↔ immS (fm x) (shf x) (S z) := by
  have e : decide (22 ≤ (x : Int) ∧ (x : Int) ≤ 24) = shf x := by unfold shf; rw [decide_eq_decide]; omega
  rw [e]
  have hs := S_nat z
  have hz := z.isLt
  cases hf : fm x
  · simp [immB, immS]
  · cases hh : shf x
    · simp only [immB, immS, Bool.false_eq_true, if_false, decide_eq_true_eq]
      exact sg_fits z 12 (by decide) (by decide) 2048 (by decide)
    · simp only [immB, immS, if_true, Bool.and_eq_true, decide_eq_true_eq]
      split at hs <;> omega
  · simp only [immB, immS, decide_eq_true_eq]
    exact sg_fits z 12 (by decide) (by decide) 2048 (by decide)
  · simp only [immB, immS, Bool.and_eq_true, decide_eq_true_eq, and_one]
    rw [sg_fits z 13 (by decide) (by decide) 4096 (by decide)]; omega
  · simp only [immB, immS, Bool.and_eq_true, decide_eq_true_eq, and_4095]
    rw [sg_fits z 32 (by decide) (by decide) 2147483648 (by decide)]; omega
  · simp only [immB, immS, Bool.and_eq_true, decide_eq_true_eq, and_one]
    rw [sg_fits z 21 (by decide) (by decide) 1048576 (by decide)]; omega
  · simp [immB, immS]
theorem may_iff (op d a b : Int) (z : BitVec 64) : mayF op d a b z = true ↔ MayS op d a b (S z) := by
  by_cases h : 0 ≤ op ∧ op ≤ 42
  · have e : ((op.toNat : Nat) : Int) = op := by omega
    have g := imm_iff op.toNat z
    rw [e] at g
    unfold mayF immF
    simp only [Bool.and_eq_true, decide_eq_true_eq, reg_iff, g]
    exact ⟨fun ⟨⟨⟨⟨_, p⟩, q⟩, r⟩, s⟩ => ⟨h.1, h.2, p, q, r, s⟩, fun m => ⟨⟨⟨⟨h, m.rd⟩, m.r1⟩, m.r2⟩, m.imm⟩⟩
  · rw [may_none op d a b h z]
    exact ⟨fun e => (by cases e), fun m => absurd ⟨m.op0, m.op1⟩ h⟩
/-! ### 3. The word, said plainly -/
theorem wrap32 (n : Nat) (h : n < 4294967296) : IntKind.u32.wrap (n : Int) = (n : Int) := by rw [IntKind.wrap_u32]; omega
theorem S_1_4096 (z : BitVec 64) : S z % 4096 = ((z.toNat % 4096 : Nat) : Int) := by
  have hs := S_nat z
  have hz := z.isLt
  split at hs <;> omega
theorem S_1_32 (z : BitVec 64) : S z % 32 = ((z.toNat % 32 : Nat) : Int) := by
  have hs := S_nat z
  have hz := z.isLt
  split at hs <;> omega
theorem S_32_128 (z : BitVec 64) : S z / 32 % 128 = ((z.toNat / 32 % 128 : Nat) : Int) := by
  have hs := S_nat z
  have hz := z.isLt
  split at hs <;> omega
theorem S_2048_2 (z : BitVec 64) : S z / 2048 % 2 = ((z.toNat / 2048 % 2 : Nat) : Int) := by
  have hs := S_nat z
  have hz := z.isLt
  split at hs <;> omega
theorem S_2_16 (z : BitVec 64) : S z / 2 % 16 = ((z.toNat / 2 % 16 : Nat) : Int) := by
  have hs := S_nat z
  have hz := z.isLt
  split at hs <;> omega
theorem S_32_64 (z : BitVec 64) : S z / 32 % 64 = ((z.toNat / 32 % 64 : Nat) : Int) := by
  have hs := S_nat z
  have hz := z.isLt
  split at hs <;> omega
theorem S_4096_2 (z : BitVec 64) : S z / 4096 % 2 = ((z.toNat / 4096 % 2 : Nat) : Int) := by
  have hs := S_nat z
  have hz := z.isLt
  split at hs <;> omega
theorem S_4096_1048576 (z : BitVec 64) : S z / 4096 % 1048576 = ((z.toNat / 4096 % 1048576 : Nat) : Int) := by
  have hs := S_nat z
  have hz := z.isLt
  split at hs <;> omega
theorem S_4096_256 (z : BitVec 64) : S z / 4096 % 256 = ((z.toNat / 4096 % 256 : Nat) : Int) := by
  have hs := S_nat z
  have hz := z.isLt
  split at hs <;> omega
theorem S_2_1024 (z : BitVec 64) : S z / 2 % 1024 = ((z.toNat / 2 % 1024 : Nat) : Int) := by
  have hs := S_nat z
  have hz := z.isLt
  split at hs <;> omega
theorem S_1048576_2 (z : BitVec 64) : S z / 1048576 % 2 = ((z.toNat / 1048576 % 2 : Nat) : Int) := by
  have hs := S_nat z
  have hz := z.isLt
  split at hs <;> omega
set_option maxHeartbeats 4000000 in
theorem enc_is (op d a b : Int) (z : BitVec 64) (m : MayS op d a b (S z)) : encV op d a b z = encS op.toNat d a b (S z) := by
  obtain ⟨h0, h1, ⟨d0, d1, d2⟩, ⟨a0, a1, a2⟩, ⟨b0, b1, b2⟩, hi⟩ := m
  obtain ⟨x, rfl⟩ := Int.eq_ofNat_of_zero_le h0
  obtain ⟨d, rfl⟩ := Int.eq_ofNat_of_zero_le d0
  obtain ⟨a, rfl⟩ := Int.eq_ofNat_of_zero_le a0
  obtain ⟨b, rfl⟩ := Int.eq_ofNat_of_zero_le b0
  simp only [Int.toNat_natCast] at d2 a2 b2 hi ⊢
  have hl := lo_lt x
  have hk := kd_lt x
  have ht := tp_lt x
  have hs := S_nat z
  have hz := z.isLt
  have hB := base_nat (lo x) d (kd x) a b hl (by omega) hk (by omega) (by omega)
  have hH := head_nat (lo x) d hl (by omega)
  unfold encV encS
  simp only [Int.toNat_natCast]
  cases hf : fm x <;> rw [hf] at d2 a2 b2 hi <;> dsimp only
  · -- R
    have e : U (baseW (lo x : Int) (d : Int) (kd x : Int) (a : Int) (b : Int)) = ((lo x + d * 128 + kd x * 4096 + a * 32768 + b * 1048576 : Nat) : Int) := by unfold U; rw [hB]
    rw [e, show (tp x : Int) * 33554432 = ((tp x * 2 ^ 25 : Nat) : Int) by omega, wrapu_nat _ (by omega), or_add _ (tp x) 25 (by omega) (by omega), wrap32 _ (by omega)]
    omega
  · -- I
    have b3 : b = 0 := by have := b2 rfl; omega
    subst b3
    cases hh : shf x
    · have hns : ¬ (22 ≤ (x : Int) ∧ (x : Int) ≤ 24) := by unfold shf at hh; have := of_decide_eq_false hh; omega
      rw [if_neg hns]
      rw [hh] at hi
      simp only [immS, Bool.false_eq_true, if_false] at hi ⊢
      unfold U
      rw [S_1_4096, pt_toNat _ _ _ _ (by decide), fld_toNat _ _ _ (by decide), hB]
      clear hs hi hB hH
      have e : (lo x + d * 128 + kd x * 4096 + a * 32768 + 0 * 1048576) % 2 ^ 20 + z.toNat / 2 ^ 0 % 2 ^ 12 % 2 ^ 12 * 2 ^ 20 + (lo x + d * 128 + kd x * 4096 + a * 32768 + 0 * 1048576) / 2 ^ (20 + 12) * 2 ^ (20 + 12) = lo x + d * 128 + kd x * 4096 + a * 32768 + z.toNat % 4096 * 1048576 := by omega
      rw [e, wrap32 _ (by omega)]
      omega
    · have hns : 22 ≤ (x : Int) ∧ (x : Int) ≤ 24 := by unfold shf at hh; have := of_decide_eq_true hh; omega
      rw [if_pos hns]
      rw [hh] at hi
      simp only [immS, if_true] at hi ⊢
      have hZ : z.toNat < 64 := by split at hs <;> omega
      have hW := sh_nat z (tp x) hZ (by omega)
      unfold U
      have hn : S z = (z.toNat : Int) := by split at hs <;> omega
      rw [hn, pt_toNat _ _ _ _ (by decide), fld_toNat _ _ _ (by decide), hB, hW]
      clear hs hi hB hH hW
      have e : (lo x + d * 128 + kd x * 4096 + a * 32768 + 0 * 1048576) % 2 ^ 20 + (z.toNat + tp x * 64) / 2 ^ 0 % 2 ^ 12 % 2 ^ 12 * 2 ^ 20 + (lo x + d * 128 + kd x * 4096 + a * 32768 + 0 * 1048576) / 2 ^ (20 + 12) * 2 ^ (20 + 12) = lo x + d * 128 + kd x * 4096 + a * 32768 + (z.toNat + tp x * 64) * 1048576 := by omega
      rw [e, wrap32 _ (by omega)]
      omega
  · -- S
    have d3 : d = 0 := by have := d2 rfl; omega
    subst d3
    rw [S_1_32, S_32_128]
    unfold U
    have e1 := pt_toNat (baseW (lo x : Int) ((0 : Nat) : Int) (kd x : Int) (a : Int) (b : Int)) (fld z 0 5) 7 5 (by decide)
    rw [fld_toNat _ _ _ (by decide), hB] at e1
    rw [pt_toNat _ _ 25 7 (by decide), fld_toNat _ _ _ (by decide)]
    generalize (pt (baseW (lo x : Int) ((0 : Nat) : Int) (kd x : Int) (a : Int) (b : Int)) 7 5 (fld z 0 5)).toNat = q1 at e1 ⊢
    clear hs hi hB hH
    have f1 : q1 = lo x + z.toNat % 32 * 128 + kd x * 4096 + a * 32768 + b * 1048576 := by omega
    clear e1
    have f2 : q1 % 2 ^ 25 + z.toNat / 2 ^ 5 % 2 ^ 7 % 2 ^ 7 * 2 ^ 25 + q1 / 2 ^ (25 + 7) * 2 ^ (25 + 7) = q1 + z.toNat / 32 % 128 * 33554432 := by omega
    rw [f2, wrap32 _ (by omega), f1]
    clear f1 f2
    omega
  · -- B
    have d3 : d = 0 := by have := d2 rfl; omega
    subst d3
    rw [S_2048_2, S_2_16, S_32_64, S_4096_2]
    unfold U
    have e1 := pt_toNat (baseW (lo x : Int) ((0 : Nat) : Int) (kd x : Int) (a : Int) (b : Int)) (fld z 1 4) 8 4 (by decide)
    rw [fld_toNat _ _ _ (by decide), hB] at e1
    have e2 := pt_toNat (pt (baseW (lo x : Int) ((0 : Nat) : Int) (kd x : Int) (a : Int) (b : Int)) 8 4 (fld z 1 4)) (fld z 5 6) 25 6 (by decide)
    rw [fld_toNat _ _ _ (by decide)] at e2
    have e3 := pt_toNat (pt (pt (baseW (lo x : Int) ((0 : Nat) : Int) (kd x : Int) (a : Int) (b : Int)) 8 4 (fld z 1 4)) 25 6 (fld z 5 6)) (fld z 11 1) 7 1 (by decide)
    rw [fld_toNat _ _ _ (by decide)] at e3
    rw [pt_toNat _ _ 31 1 (by decide), fld_toNat _ _ _ (by decide)]
    generalize (pt (pt (pt (baseW (lo x : Int) ((0 : Nat) : Int) (kd x : Int) (a : Int) (b : Int)) 8 4 (fld z 1 4)) 25 6 (fld z 5 6)) 7 1 (fld z 11 1)).toNat = q3 at e3 ⊢
    generalize (pt (pt (baseW (lo x : Int) ((0 : Nat) : Int) (kd x : Int) (a : Int) (b : Int)) 8 4 (fld z 1 4)) 25 6 (fld z 5 6)).toNat = q2 at e2 e3
    generalize (pt (baseW (lo x : Int) ((0 : Nat) : Int) (kd x : Int) (a : Int) (b : Int)) 8 4 (fld z 1 4)).toNat = q1 at e1 e2
    clear hs hi hB hH
    have f1 : q1 = lo x + (z.toNat / 2 % 16) * 256 + kd x * 4096 + a * 32768 + b * 1048576 := by omega
    clear e1
    have f2 : q2 = q1 + (z.toNat / 32 % 64) * 33554432 := by omega
    clear e2
    have f3 : q3 = lo x + (z.toNat / 2048 % 2) * 128 + (z.toNat / 2 % 16) * 256 + kd x * 4096 + a * 32768 + b * 1048576 + (z.toNat / 32 % 64) * 33554432 := by omega
    clear e3 f2 f1
    have hq : q3 < 2147483648 := by omega
    have h2 : z.toNat / 2 ^ 12 % 2 ^ 1 % 2 ^ 1 = z.toNat / 4096 % 2 := by omega
    have f4 : q3 % 2 ^ 31 + z.toNat / 2 ^ 12 % 2 ^ 1 % 2 ^ 1 * 2 ^ 31 + q3 / 2 ^ (31 + 1) * 2 ^ (31 + 1) = q3 + (z.toNat / 4096 % 2) * 2147483648 := by
      rw [h2, Nat.mod_eq_of_lt (show q3 < 2 ^ 31 from hq), Nat.div_eq_of_lt (show q3 < 2 ^ (31 + 1) by omega)]
      omega
    clear h2
    rw [f4, wrap32 _ (by omega), f3]
    clear f4
    omega
  · -- U
    rw [S_4096_1048576]
    unfold U
    rw [pt_toNat _ _ _ _ (by decide), fld_toNat _ _ _ (by decide), hH]
    clear hs hi hB hH
    have e : (lo x + d * 128) % 2 ^ 12 + z.toNat / 2 ^ 12 % 2 ^ 20 % 2 ^ 20 * 2 ^ 12 + (lo x + d * 128) / 2 ^ (12 + 20) * 2 ^ (12 + 20) = lo x + d * 128 + z.toNat / 4096 % 1048576 * 4096 := by omega
    rw [e, wrap32 _ (by omega)]
    omega
  · -- J
    rw [S_4096_256, S_2048_2, S_2_1024, S_1048576_2]
    unfold U
    have e1 := pt_toNat (headW (lo x : Int) (d : Int)) (fld z 1 10) 21 10 (by decide)
    rw [fld_toNat _ _ _ (by decide), hH] at e1
    have e2 := pt_toNat (pt (headW (lo x : Int) (d : Int)) 21 10 (fld z 1 10)) (fld z 11 1) 20 1 (by decide)
    rw [fld_toNat _ _ _ (by decide)] at e2
    have e3 := pt_toNat (pt (pt (headW (lo x : Int) (d : Int)) 21 10 (fld z 1 10)) 20 1 (fld z 11 1)) (fld z 12 8) 12 8 (by decide)
    rw [fld_toNat _ _ _ (by decide)] at e3
    rw [pt_toNat _ _ 31 1 (by decide), fld_toNat _ _ _ (by decide)]
    generalize (pt (pt (pt (headW (lo x : Int) (d : Int)) 21 10 (fld z 1 10)) 20 1 (fld z 11 1)) 12 8 (fld z 12 8)).toNat = q3 at e3 ⊢
    generalize (pt (pt (headW (lo x : Int) (d : Int)) 21 10 (fld z 1 10)) 20 1 (fld z 11 1)).toNat = q2 at e2 e3
    generalize (pt (headW (lo x : Int) (d : Int)) 21 10 (fld z 1 10)).toNat = q1 at e1 e2
    clear hs hi hB hH
    have f1 : q1 = lo x + d * 128 + (z.toNat / 2 % 1024) * 2097152 := by omega
    clear e1
    have f2 : q2 = lo x + d * 128 + (z.toNat / 2048 % 2) * 1048576 + (z.toNat / 2 % 1024) * 2097152 := by omega
    clear e2 f1
    have f3 : q3 = lo x + d * 128 + (z.toNat / 4096 % 256) * 4096 + (z.toNat / 2048 % 2) * 1048576 + (z.toNat / 2 % 1024) * 2097152 := by omega
    clear e3 f2
    have hq : q3 < 2147483648 := by omega
    have h2 : z.toNat / 2 ^ 20 % 2 ^ 1 % 2 ^ 1 = z.toNat / 1048576 % 2 := by omega
    have f4 : q3 % 2 ^ 31 + z.toNat / 2 ^ 20 % 2 ^ 1 % 2 ^ 1 * 2 ^ 31 + q3 / 2 ^ (31 + 1) * 2 ^ (31 + 1) = q3 + (z.toNat / 1048576 % 2) * 2147483648 := by
      rw [h2, Nat.mod_eq_of_lt (show q3 < 2 ^ 31 from hq), Nat.div_eq_of_lt (show q3 < 2 ^ (31 + 1) by omega)]
      omega
    clear h2
    rw [f4, wrap32 _ (by omega), f3]
    clear f4
    omega
end Go.Proofs.YtbdlhhajblhmiaaDoor.Ins
