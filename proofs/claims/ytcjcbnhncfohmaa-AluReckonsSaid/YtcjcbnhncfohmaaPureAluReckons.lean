/- AluReckons, over words of 64 bits: what the printed functions of package alu come to, and the law's plain statement. -/
import Derived.Test.YtcjcbnhncfohmaaQAluReckonsx2
set_option linter.unusedVariables false
set_option linter.unusedSimpArgs false
namespace Go.Proofs.Ytcjcbnhncfohmaa.Pure
open Go.RowKit Go.Proofs.Ytcjcbnhncfohmaa.QAluReckons Go.Proofs.YtcjcbnhncfohmaaW.PrintWords Go.Proofs.YtcjcbnhncfohmaaW.PrintLast Go.Proofs.Ytcjcbnhncfohmaa.Bv Go.Proofs.Ytcjcbnhncfohmaa.Hand

theorem two_is (c : Nat) (h : c ≤ 15) (x y : BitVec 64) : alu_Two.f (c : Int) (U x) (U y) = some (U (twoW c x y), true) := by
  unfold alu_Two.f twoF
  have hx := U_nonneg x
  have hx1 := U_lt x
  have hy := U_nonneg y
  have hy1 := U_lt y
  rw [if_pos ⟨hx, hx1, hy, hy1⟩, if_pos (by omega), ofU, ofU]; rfl
theorem two_not (op : Int) (h : ¬ (0 ≤ op ∧ op ≤ 15)) (x y : BitVec 64) : alu_Two.f op (U x) (U y) = some (0, false) := by
  unfold alu_Two.f twoF
  have hx := U_nonneg x
  have hx1 := U_lt x
  have hy := U_nonneg y
  have hy1 := U_lt y
  rw [if_pos ⟨hx, hx1, hy, hy1⟩, if_neg h]
theorem one_is (n : Nat) (h0 : 16 ≤ n) (h1 : n ≤ 24) (x y : BitVec 64) : alu_One.f (n : Int) (U x) (S y) = some (U (twoW (withN n).toNat x y), true) := by
  unfold alu_One.f oneF
  have hx := U_nonneg x
  have hx1 := U_lt x
  rw [if_pos ⟨hx, hx1, S_ge y, S_lt y, by omega, by omega⟩, if_pos ⟨by omega, by omega⟩, ofU, ofS]; rfl
theorem one_not (op : Int) (w0 : -9223372036854775808 ≤ op) (w1 : op < 9223372036854775808) (h : ¬ (16 ≤ op ∧ op ≤ 24)) (x y : BitVec 64) : alu_One.f op (U x) (S y) = some (0, false) := by
  unfold alu_One.f oneF
  have hx := U_nonneg x
  have hx1 := U_lt x
  rw [if_pos ⟨hx, hx1, S_ge y, S_lt y, w0, w1⟩, if_neg h]
theorem awake_is : caponierlaw03_awake.f = some true := by decide +kernel
theorem addW (x y : BitVec 64) : IntKind.u64.wrap (U x + U y) = U (x + y) := addU x y
theorem wrap_neg (x : BitVec 64) : IntKind.u64.wrap (-(U x)) = U (-x) := by rw [wrapU, BitVec.ofInt_neg, ofU]
theorem S_U (x : BitVec 64) : S x = if U x < 9223372036854775808 then U x else U x - 18446744073709551616 := by
  unfold S U
  rw [BitVec.toInt_eq_toNat_cond]
  split <;> split <;> omega

/-! The reference's functions. -/
def top (x : BitVec 64) : Int := if U x < 9223372036854775808 then 0 else 1
theorem bit63 (x : BitVec 64) : caponierref01_Bit.f (U x) 63 = some (top x) := by
  unfold caponierref01_Bit.f
  have h0 := U_nonneg x
  have h1 := U_lt x
  have e : shr .u64 (U x) (IntKind.u64.wrap 63) = U x / 9223372036854775808 := by
    rw [wrapu_in (by decide) (by decide)]; rfl
  rw [if_pos (by decide), e, Int.tmod_eq_emod_of_nonneg (by omega)]
  unfold top
  refine congrArg some ?_
  split <;> omega
theorem S_top (x : BitVec 64) : S x = U x - 18446744073709551616 * top x := by
  have := S_U x
  unfold top
  split at this <;> rename_i h
  · rw [if_pos h]; omega
  · rw [if_neg h]; omega
theorem top01 (x : BitVec 64) : top x = 0 ∨ top x = 1 := by unfold top; split <;> simp
theorem less_yes (x y : BitVec 64) : caponierref03_less.f (U x) (U y) true = some (decide (S x < S y)) := by
  unfold caponierref03_less.f
  rw [if_pos rfl, bit63, Option.bind_some, bit63, Option.bind_some]
  have hx := S_top x
  have hy := S_top y
  have bx := U_nonneg x
  have by' := U_nonneg y
  have cx := U_lt x
  have cy := U_lt y
  rcases top01 x with tx | tx <;> rcases top01 y with ty | ty <;> rw [tx] at hx ⊢ <;> rw [ty] at hy ⊢
  · rw [if_pos rfl]; refine congrArg some ?_; rw [decide_eq_decide]; omega
  · rw [if_neg (by decide)]; refine congrArg some ?_; symm; rw [show ((0 : Int) == 1) = false from rfl, decide_eq_false_iff_not]; unfold top at tx ty; split at tx <;> split at ty <;> omega
  · rw [if_neg (by decide)]; refine congrArg some ?_; symm; rw [show ((1 : Int) == 1) = true from rfl, decide_eq_true_iff]; unfold top at tx ty; split at tx <;> split at ty <;> omega
  · rw [if_pos rfl]; refine congrArg some ?_; rw [decide_eq_decide]; omega
theorem less_no (a b : Int) : caponierref03_less.f a b false = some (decide (a < b)) := by
  unfold caponierref03_less.f
  rw [if_neg (by decide)]
theorem truth_is (b : Bool) : caponierref03_truth.f b = some (U (one b)) := by cases b <;> rfl
theorem up1 (z : BitVec 64) : IntKind.u64.wrap (U z * 2) = U (z <<< 1) := by
  rw [show (2 : Int) = U 2#64 from rfl, mulU]
  congr 1
  apply BitVec.eq_of_toNat_eq
  rw [BitVec.toNat_mul, BitVec.toNat_shiftLeft, Nat.shiftLeft_eq]; rfl
theorem down1 (z : BitVec 64) : IntKind.u64.wrap (Int.tdiv (U z) 2) = U (z >>> 1) := by
  have h0 := U_nonneg z
  have h1 := U_lt z
  rw [Int.tdiv_eq_ediv_of_nonneg h0, wrapu_in (by omega) (by omega)]
  unfold U
  rw [BitVec.toNat_ushiftRight, Nat.shiftRight_eq_div_pow]; rfl
theorem sar1 (z : BitVec 64) : IntKind.u64.wrap (IntKind.u64.wrap (Int.tdiv (U z) 2) + IntKind.u64.wrap (top z * 9223372036854775808)) = U (z.sshiftRight 1) := by
  have h0 := U_nonneg z
  have h1 := U_lt z
  have hs := S_top z
  have e : S (z.sshiftRight 1) = S z / 2 := by
    have := shr_S z 1 (by decide)
    rw [show (1 : Int).toNat = 1 from rfl] at this
    rw [← this]; rfl
  rw [← wrapUS (z.sshiftRight 1), e, Int.tdiv_eq_ediv_of_nonneg h0, IntKind.wrap_u64, IntKind.wrap_u64, IntKind.wrap_u64, IntKind.wrap_u64, hs]
  rcases top01 z with t | t <;> rw [t] <;> omega
theorem top_sar (x : BitVec 64) (i : Nat) : top (x.sshiftRight i) = top x := by
  have h : ∀ x : BitVec 64, top x = if x.msb then 1 else 0 := by
    intro x
    unfold top U
    rw [BitVec.msb_eq_decide]
    by_cases h : x.toNat < 9223372036854775808
    · rw [if_pos (by omega), decide_eq_false (by omega)]; rfl
    · rw [if_neg (by omega), decide_eq_true (by omega)]; rfl
  rw [h, h, BitVec.msb_sshiftRight]
theorem shifted_l (x y : BitVec 64) (d : Nat) : ∀ i : Nat, i + d = y.toNat % 64 → ∀ k, d < k →
    caponierref03_shifted.l0 k (U (x <<< i)) (U y) 0 (top x) (i : Int) = some (U (x <<< (y.toNat % 64))) ∧
    caponierref03_shifted.l0 k (U (x >>> i)) (U y) 1 (top x) (i : Int) = some (U (x >>> (y.toNat % 64))) ∧
    caponierref03_shifted.l0 k (U (x.sshiftRight i)) (U y) 2 (top x) (i : Int) = some (U (x.sshiftRight (y.toNat % 64))) := by
  have em : Int.tmod (U y) 64 = ((y.toNat % 64 : Nat) : Int) := by
    rw [Int.tmod_eq_emod_of_nonneg (U_nonneg y)]; unfold U; omega
  induction d with
  | zero =>
    intro i hi k hk
    obtain ⟨k, rfl⟩ : ∃ m, k = m + 1 := ⟨k - 1, by omega⟩
    have hi' : i = y.toNat % 64 := by omega
    rw [caponierref03_shifted.l0, caponierref03_shifted.l0, caponierref03_shifted.l0, em, if_neg (by omega), if_neg (by omega), if_neg (by omega), hi']
    exact ⟨rfl, rfl, rfl⟩
  | succ d ih =>
    intro i hi k hk
    obtain ⟨k, rfl⟩ : ∃ m, k = m + 1 := ⟨k - 1, by omega⟩
    obtain ⟨g1, g2, g3⟩ := ih (i + 1) (by omega) k (by omega)
    have hlt : i < 64 := by omega
    have ew : IntKind.u64.wrap ((i : Int) + 1) = ((i + 1 : Nat) : Int) := by rw [wrapu_in (by omega) (by omega)]; rfl
    have s1 := sar1 (x.sshiftRight i)
    rw [top_sar] at s1
    refine ⟨?_, ?_, ?_⟩
    · rw [caponierref03_shifted.l0, em, if_pos (by omega), if_pos rfl, ew, up1, ← BitVec.shiftLeft_add]; exact g1
    · rw [caponierref03_shifted.l0, em, if_pos (by omega), if_neg (by decide), if_neg (by decide), ew, down1, ← BitVec.shiftRight_add]; exact g2
    · rw [caponierref03_shifted.l0, em, if_pos (by omega), if_neg (by decide), if_pos rfl, ew, s1, ← BitVec.sshiftRight_add]; exact g3
theorem shifted_is (x y : BitVec 64) {k : Nat} (hk : 70 ≤ k) :
    caponierref03_shifted.f k (U x) (U y) 0 = some (U (x <<< (y.toNat % 64))) ∧
    caponierref03_shifted.f k (U x) (U y) 1 = some (U (x >>> (y.toNat % 64))) ∧
    caponierref03_shifted.f k (U x) (U y) 2 = some (U (x.sshiftRight (y.toNat % 64))) := by
  obtain ⟨g1, g2, g3⟩ := shifted_l x y (y.toNat % 64) 0 (by omega) k (by omega)
  unfold caponierref03_shifted.f
  rw [bit63, Option.bind_some, Option.bind_some, Option.bind_some]
  rw [show x <<< (0 : Nat) = x by simp] at g1
  rw [show x >>> (0 : Nat) = x by simp] at g2
  rw [show x.sshiftRight 0 = x by simp] at g3
  exact ⟨g1, g2, g3⟩
theorem high_is (x y : BitVec 64) : caponierref03_high.f (U x) (U y) = some (U (BitVec.ofNat 64 (x.toNat * y.toNat / 18446744073709551616))) := by
  unfold caponierref03_high.f
  congr 1
  have hx := x.isLt
  have hy := y.isLt
  obtain ⟨b1, b2, b3, b4⟩ := Lib.mul64_hi y.toNat x.toNat hy hx
  have hle : x.toNat * y.toNat / 18446744073709551616 < 2 ^ 64 := by
    have : x.toNat * y.toNat ≤ 18446744073709551615 * 18446744073709551615 := Nat.mul_le_mul (by omega) (by omega)
    omega
  have e1 : Int.tdiv (U x) 4294967296 = ((x.toNat / 4294967296 : Nat) : Int) := by rw [Int.tdiv_eq_ediv_of_nonneg (U_nonneg x)]; unfold U; omega
  have e2 : Int.tdiv (U y) 4294967296 = ((y.toNat / 4294967296 : Nat) : Int) := by rw [Int.tdiv_eq_ediv_of_nonneg (U_nonneg y)]; unfold U; omega
  have e3 : Int.tmod (U x) 4294967296 = ((x.toNat % 4294967296 : Nat) : Int) := by rw [Int.tmod_eq_emod_of_nonneg (U_nonneg x)]; unfold U; omega
  have e4 : Int.tmod (U y) 4294967296 = ((y.toNat % 4294967296 : Nat) : Int) := by rw [Int.tmod_eq_emod_of_nonneg (U_nonneg y)]; unfold U; omega
  have dN : ∀ a : Nat, Int.tdiv (a : Int) 4294967296 = ((a / 4294967296 : Nat) : Int) := fun a => by rw [Int.tdiv_eq_ediv_of_nonneg (by omega)]; omega
  have mN : ∀ a : Nat, Int.tmod (a : Int) 4294967296 = ((a % 4294967296 : Nat) : Int) := fun a => by rw [Int.tmod_eq_emod_of_nonneg (by omega)]; omega
  rw [e1, e2, e3, e4]
  have ba := Lib.half_mul_le (a := y.toNat / 4294967296) (b := x.toNat / 4294967296) (by omega) (by omega)
  have bb := Lib.half_mul_le (a := y.toNat / 4294967296) (b := x.toNat % 4294967296) (by omega) (by omega)
  have bc := Lib.half_mul_le (a := y.toNat % 4294967296) (b := x.toNat / 4294967296) (by omega) (by omega)
  have bd := Lib.half_mul_le (a := y.toNat % 4294967296) (b := x.toNat % 4294967296) (by omega) (by omega)
  have eU : U (BitVec.ofNat 64 (x.toNat * y.toNat / 18446744073709551616)) = ((y.toNat * x.toNat / 18446744073709551616 : Nat) : Int) := by
    unfold U; rw [BitVec.toNat_ofNat, Nat.mod_eq_of_lt hle, Nat.mul_comm]
  rw [eU, ← b4]
  have xl : x.toNat / 4294967296 < 4294967296 := by omega
  have yl : y.toNat / 4294967296 < 4294967296 := by omega
  simp only [Mul.wrapN _ (show x.toNat / 4294967296 < 18446744073709551616 by omega), Mul.wrapN _ (show y.toNat / 4294967296 < 18446744073709551616 by omega), Mul.mulN]
  rw [Nat.mul_comm (x.toNat / 4294967296) (y.toNat / 4294967296), Nat.mul_comm (x.toNat % 4294967296) (y.toNat / 4294967296), Nat.mul_comm (x.toNat % 4294967296) (y.toNat % 4294967296), Nat.mul_comm (x.toNat / 4294967296) (y.toNat % 4294967296)]
  generalize y.toNat / 4294967296 * (x.toNat / 4294967296) = a at *
  generalize y.toNat / 4294967296 * (x.toNat % 4294967296) = b at *
  generalize y.toNat % 4294967296 * (x.toNat / 4294967296) = c at *
  generalize y.toNat % 4294967296 * (x.toNat % 4294967296) = d at *
  rw [Mul.wrapN d (by omega), Mul.wrapN a (by omega), Mul.wrapN b (by omega), Mul.wrapN c (by omega), dN, Mul.wrapN (d / 4294967296) (by omega), Mul.addN, Mul.wrapN _ (by omega), dN, mN, Mul.wrapN _ (by omega), Mul.addN, Mul.addN, Mul.wrapN _ (by omega), Mul.wrapN _ (by omega), dN, Mul.wrapN _ (by omega), Mul.addN, Mul.wrapN _ (by omega)]
  congr 1
  omega
/-- A number without its sign. -/
def mag (x : BitVec 64) : Int := if top x = 1 then 18446744073709551616 - U x else U x
theorem size_is (x : BitVec 64) : caponierref03_size.f (U x) = some (mag x) := by
  unfold caponierref03_size.f mag
  rw [bit63, Option.bind_some]
  have h0 := U_nonneg x
  have h1 := U_lt x
  rcases top01 x with t | t
  · rw [t, if_neg (by decide), if_neg (by decide)]
  · have hp : 0 < U x := by
      unfold top at t
      split at t <;> omega
    rw [t, if_pos rfl, if_pos rfl]
    refine congrArg some ?_
    rw [IntKind.wrap_u64]; omega
theorem mag_S (x : BitVec 64) : (top x = 0 → mag x = S x) ∧ (top x = 1 → mag x = - S x) ∧ 0 ≤ mag x ∧ mag x ≤ 9223372036854775808 := by
  have hs := S_top x
  have h0 := U_nonneg x
  have h1 := U_lt x
  by_cases h : U x < 9223372036854775808
  · have t : top x = 0 := if_pos h
    have m : mag x = U x := by unfold mag; rw [t, if_neg (by decide)]
    rw [t] at hs
    rw [m, t]
    exact ⟨fun _ => by omega, fun g => by omega, by omega, by omega⟩
  · have t : top x = 1 := if_neg h
    have m : mag x = 18446744073709551616 - U x := by unfold mag; rw [t, if_pos rfl]
    rw [t] at hs
    rw [m, t]
    exact ⟨fun g => by omega, fun _ => by omega, by omega, by omega⟩
theorem signed_quo (x y : BitVec 64) : caponierref03_signed.f (U x) (U y) true = some (U (twoW 12 x y)) := by
  unfold caponierref03_signed.f
  by_cases hy : U y = 0
  · rw [if_pos hy, if_pos rfl]
    have e : twoW 12 x y = BitVec.ofInt 64 (-1) := if_pos hy
    rw [e]; rfl
  · have e : twoW 12 x y = BitVec.ofInt 64 (Int.tdiv (S x) (S y)) := if_neg hy
    have hyS : S y ≠ 0 := fun g => hy ((U_zero_S y).2 g)
    obtain ⟨x0, x1, x2, x3⟩ := mag_S x
    obtain ⟨y0, y1, y2, y3⟩ := mag_S y
    have my : mag y ≠ 0 := by
      rcases top01 y with t | t
      · rw [y0 t]; exact hyS
      · rw [y1 t]; omega
    rw [if_neg hy, size_is, Option.bind_some, size_is, Option.bind_some, if_neg my, Option.bind_some, Option.bind_some, if_neg my, if_pos rfl, bit63, Option.bind_some, bit63, Option.bind_some]
    rw [e, ← wrapU]
    rcases top01 x with tx | tx <;> rcases top01 y with ty | ty <;> rw [tx, ty]
    · rw [if_pos rfl, x0 tx, y0 ty]
    · rw [if_neg (by decide), x0 tx, y1 ty, Int.tdiv_neg, wrapU, wrapU, wrapU, BitVec.ofInt_neg, BitVec.ofInt_neg, ofU, BitVec.neg_neg]
    · rw [if_neg (by decide), x1 tx, y0 ty, Int.neg_tdiv, wrapU, wrapU, wrapU, BitVec.ofInt_neg, BitVec.ofInt_neg, ofU, BitVec.neg_neg]
    · rw [if_pos rfl, x1 tx, y1 ty, Int.neg_tdiv, Int.tdiv_neg, Int.neg_neg]
theorem signed_rem (x y : BitVec 64) : caponierref03_signed.f (U x) (U y) false = some (U (twoW 14 x y)) := by
  unfold caponierref03_signed.f
  by_cases hy : U y = 0
  · rw [if_pos hy, if_neg (by decide)]
    have e : twoW 14 x y = x := if_pos hy
    rw [e]
  · have e : twoW 14 x y = BitVec.ofInt 64 (Int.tmod (S x) (S y)) := if_neg hy
    have hyS : S y ≠ 0 := fun g => hy ((U_zero_S y).2 g)
    obtain ⟨x0, x1, x2, x3⟩ := mag_S x
    obtain ⟨y0, y1, y2, y3⟩ := mag_S y
    have my : mag y ≠ 0 := by
      rcases top01 y with t | t
      · rw [y0 t]; exact hyS
      · rw [y1 t]; omega
    rw [if_neg hy, size_is, Option.bind_some, size_is, Option.bind_some, if_neg my, Option.bind_some, Option.bind_some, if_neg my, if_neg (by decide), bit63, Option.bind_some]
    rw [e, ← wrapU]
    have ey : Int.tmod (mag x) (mag y) = Int.tmod (mag x) (S y) := by
      rcases top01 y with t | t
      · rw [y0 t]
      · rw [y1 t, Int.tmod_neg]
    have bnd : 0 ≤ Int.tmod (mag x) (mag y) ∧ Int.tmod (mag x) (mag y) < 18446744073709551616 := by
      have g := Int.tmod_nonneg (mag y) x2
      have g' := Int.tmod_lt_of_pos (mag x) (show 0 < mag y by omega)
      omega
    rcases top01 x with tx | tx <;> rw [tx]
    · rw [if_neg (by decide), ← x0 tx, ← ey, wrapu_in bnd.1 bnd.2]
    · rw [if_pos rfl, ey, x1 tx, Int.neg_tmod, Int.neg_neg]
theorem tdivU (x y : BitVec 64) : IntKind.u64.wrap (Int.tdiv (U x) (U y)) = U (BitVec.ofInt 64 (U x / U y)) := by
  rw [Int.tdiv_eq_ediv_of_nonneg (U_nonneg x), wrapU]
theorem tmodU (x y : BitVec 64) (hy : U y ≠ 0) : Int.tmod (U x) (U y) = U (BitVec.ofInt 64 (U x % U y)) := by
  have g0 := U_nonneg y
  have g1 := U_lt y
  have g2 := Int.emod_lt_of_pos (U x) (show 0 < U y by omega)
  rw [Int.tmod_eq_emod_of_nonneg (U_nonneg x), U_of (Int.emod_nonneg _ hy) (by omega)]
theorem ref_two (c : Nat) (hc : c ≤ 15) (x y : BitVec 64) {k : Nat} (hk : 70 ≤ k) : caponierref03_Two.f k (c : Int) (U x) (U y) = some (U (twoW c x y), true) := by
  obtain ⟨s0, s1, s2⟩ := shifted_is x y hk
  have hl := less_yes x y
  have hn := less_no (U x) (U y)
  have hh := high_is x y
  have hq := signed_quo x y
  have hr := signed_rem x y
  unfold caponierref03_Two.f
  match c, hc with
  | 0, _ => simp [addU, twoW]
  | 1, _ => simp [subU, twoW]
  | 2, _ => simp [s0, twoW]
  | 3, _ => simp [hl, truth_is, twoW]
  | 4, _ => simp [hn, truth_is, twoW]
  | 5, _ => simp [xor_U, twoW]
  | 6, _ => simp [s1, twoW]
  | 7, _ => simp [s2, twoW]
  | 8, _ => simp [or_U, twoW]
  | 9, _ => simp [and_U, twoW]
  | 10, _ => simp [mulU, twoW]
  | 11, _ => simp [hh, twoW]
  | 12, _ => simp [hq]
  | 14, _ => simp [hr]
  | 13, _ =>
    by_cases hy : U y = 0
    · have e : twoW 13 x y = BitVec.ofInt 64 (-1) := if_pos hy
      simp [hy, e]; decide
    · have e : twoW 13 x y = BitVec.ofInt 64 (U x / U y) := if_neg hy
      simp [hy, e, tdivU]
  | 15, _ =>
    by_cases hy : U y = 0
    · have e : twoW 15 x y = x := if_pos hy
      simp [hy, e]
    · have e : twoW 15 x y = BitVec.ofInt 64 (U x % U y) := if_neg hy
      simp [hy, e, tmodU x y hy]
  | n + 16, h => exact absurd h (by omega)
theorem ref_two_not (op : Int) (h : ¬ (0 ≤ op ∧ op ≤ 15)) (a b : Int) (k : Nat) : caponierref03_Two.f k op a b = some (0, false) := by
  unfold caponierref03_Two.f
  rw [if_neg (by omega), if_neg (by omega), if_neg (by omega), if_neg (by omega), if_neg (by omega), if_neg (by omega), if_neg (by omega), if_neg (by omega), if_neg (by omega), if_neg (by omega), if_neg (by omega), if_neg (by omega), if_neg (by omega), if_neg (by omega), if_neg (by omega), if_neg (by omega)]
theorem ref_one (n : Nat) (h0 : 16 ≤ n) (h1 : n ≤ 24) (x y : BitVec 64) {k : Nat} (hk : 70 ≤ k) : caponierref03_One.f k (n : Int) (U x) (S y) = some (U (twoW (withN n).toNat x y), true) := by
  unfold caponierref03_One.f
  have e : rd [0, 3, 4, 5, 8, 9, 2, 6, 7] (wrap64 ((n : Int) - 16)) = ((withN n).toNat : Int) := by
    match n, h0, h1 with
    | 16, _, _ => rw [wrap_in (by decide) (by decide)]; decide
    | 17, _, _ => rw [wrap_in (by decide) (by decide)]; decide
    | 18, _, _ => rw [wrap_in (by decide) (by decide)]; decide
    | 19, _, _ => rw [wrap_in (by decide) (by decide)]; decide
    | 20, _, _ => rw [wrap_in (by decide) (by decide)]; decide
    | 21, _, _ => rw [wrap_in (by decide) (by decide)]; decide
    | 22, _, _ => rw [wrap_in (by decide) (by decide)]; decide
    | 23, _, _ => rw [wrap_in (by decide) (by decide)]; decide
    | 24, _, _ => rw [wrap_in (by decide) (by decide)]; decide
    | n + 25, _, h => exact absurd h (by omega)
  rw [if_neg (by omega), if_neg (by omega), Option.bind_some, e, wrap_in (by omega) (by omega), if_pos (by omega), if_pos (by simp; omega), wrapUS, ref_two _ (by have := withN_le n; omega) x y hk]
  rfl
theorem ref_one_not (op : Int) (h : ¬ (16 ≤ op ∧ op ≤ 24)) (a b : Int) (k : Nat) : caponierref03_One.f k op a b = some (0, false) := by
  unfold caponierref03_One.f
  by_cases h0 : op < 16
  · rw [if_pos h0]
  · rw [if_neg h0, if_pos (by omega)]
theorem k32 (a b : Int) : alu_Taken.f 32 a b = some ((a == b), true) := rfl
theorem k33 (a b : Int) : alu_Taken.f 33 a b = some ((a != b), true) := rfl
theorem k34 (a b : Int) : alu_Taken.f 34 a b = some (decide (wrap64 a < wrap64 b), true) := rfl
theorem k35 (a b : Int) : alu_Taken.f 35 a b = some (decide (wrap64 a ≥ wrap64 b), true) := rfl
theorem k36 (a b : Int) : alu_Taken.f 36 a b = some (decide (a < b), true) := rfl
theorem k37 (a b : Int) : alu_Taken.f 37 a b = some (decide (a ≥ b), true) := rfl
theorem nlt (p q : Int) : decide (p < q) = !decide (q ≤ p) := by
  by_cases h : p < q
  · rw [decide_eq_true h, decide_eq_false (show ¬ q ≤ p by omega)]; rfl
  · rw [decide_eq_false h, decide_eq_true (show q ≤ p by omega)]; rfl
theorem taken_same (op : Int) (x y : BitVec 64) {k : Nat} (hk : 70 ≤ k) : ∃ r, alu_Taken.f op (U x) (U y) = some r ∧ caponierref03_Taken.f k op (U x) (U y) = some r := by
  obtain ⟨k, rfl⟩ : ∃ m, k = m + 2 := ⟨k - 2, by omega⟩
  have hl := less_yes x y
  have hn := less_no (U x) (U y)
  have hx := wrapSU x
  have hy := wrapSU y
  unfold caponierref03_Taken.f
  by_cases h0 : op < 32
  · refine ⟨(false, false), ?_, ?_⟩
    · unfold alu_Taken.f; rw [if_neg (by omega), if_neg (by omega), if_neg (by omega), if_neg (by omega), if_neg (by omega), if_neg (by omega)]
    · rw [if_pos h0]; simp [caponierref03_Taken.j0]
  · by_cases h1 : op > 37
    · refine ⟨(false, false), ?_, ?_⟩
      · unfold alu_Taken.f; rw [if_neg (by omega), if_neg (by omega), if_neg (by omega), if_neg (by omega), if_neg (by omega), if_neg (by omega)]
      · rw [if_neg h0, decide_eq_true h1]; simp [caponierref03_Taken.j0]
    · rw [if_neg h0, decide_eq_false h1]
      rcases (show op = 32 ∨ op = 33 ∨ op = 34 ∨ op = 35 ∨ op = 36 ∨ op = 37 by omega) with rfl | rfl | rfl | rfl | rfl | rfl
      · exact ⟨_, k32 (U x) (U y), by simp [caponierref03_Taken.j0, caponierref03_Taken.j1]⟩
      · exact ⟨_, k33 (U x) (U y), by simp [caponierref03_Taken.j0, caponierref03_Taken.j1, bne]⟩
      · exact ⟨_, k34 (U x) (U y), by simp [caponierref03_Taken.j0, caponierref03_Taken.j1, hl, hx, hy]⟩
      · exact ⟨_, k35 (U x) (U y), by simp [caponierref03_Taken.j0, caponierref03_Taken.j1, hl, hx, hy]; exact nlt _ _⟩
      · exact ⟨_, k36 (U x) (U y), by simp [caponierref03_Taken.j0, caponierref03_Taken.j1, hn]⟩
      · exact ⟨_, k37 (U x) (U y), by simp [caponierref03_Taken.j0, caponierref03_Taken.j1, hn]; exact nlt _ _⟩
theorem AluReckons : caponierlaw03_AluReckons.Pure := by
  intro op a1 a2 h0 h1 h2
  have hop := wf_i64 h0
  obtain ⟨x, rfl⟩ := ex_U h1
  obtain ⟨y, rfl⟩ := ex_U h2
  clear h0 h1 h2
  refine ⟨70, ?_⟩
  unfold caponierlaw03_AluReckons.f
  rw [awake_is, Option.bind_some, if_pos rfl, wrapSU]
  obtain ⟨p, hp, hp'⟩ : ∃ p, alu_Two.f op (U x) (U y) = some p ∧ caponierref03_Two.f 70 op (U x) (U y) = some p := by
    by_cases h : 0 ≤ op ∧ op ≤ 15
    · obtain ⟨c, rfl⟩ : ∃ c : Nat, op = (c : Int) := ⟨op.toNat, by omega⟩
      exact ⟨_, two_is c (by omega) x y, ref_two c (by omega) x y (by decide)⟩
    · exact ⟨_, two_not op h x y, ref_two_not op h _ _ _⟩
  obtain ⟨q, hq, hq'⟩ : ∃ q, alu_One.f op (U x) (S y) = some q ∧ caponierref03_One.f 70 op (U x) (S y) = some q := by
    by_cases h : 16 ≤ op ∧ op ≤ 24
    · obtain ⟨c, rfl⟩ : ∃ c : Nat, op = (c : Int) := ⟨op.toNat, by omega⟩
      exact ⟨_, one_is c (by omega) (by omega) x y, ref_one c (by omega) (by omega) x y (by decide)⟩
    · exact ⟨_, one_not op hop.1 hop.2 h x y, ref_one_not op h _ _ _⟩
  obtain ⟨t, ht, ht'⟩ := taken_same op x y (k := 70) (by decide)
  rw [hp, Option.bind_some, hp', Option.bind_some, hq, Option.bind_some, hq', Option.bind_some, ht, Option.bind_some, ht', Option.bind_some, if_pos rfl, if_pos (beq_self_eq_true _), if_pos rfl, if_pos (beq_self_eq_true _), if_pos (beq_self_eq_true _), if_pos (beq_self_eq_true _)]
  unfold alu_Varies.f
  by_cases h : op ≥ 12
  · rw [if_pos h, Option.bind_some, if_pos h]; simp
  · rw [if_neg h, Option.bind_some, if_neg h]; simp

end Go.Proofs.Ytcjcbnhncfohmaa.Pure
