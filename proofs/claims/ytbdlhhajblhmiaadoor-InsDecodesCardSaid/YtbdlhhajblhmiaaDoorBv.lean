/- Words of 64 bits as bit vectors: what the printed shifts, masks and wraps come to, for every word. -/
import Derived.Test.YtbdlhhajblhmiaaDoorWWords
import Derived.Test.YtbdlhhajblhmiaaDoorWMore
import Derived.Laws.Bits64
import Derived.Laws.BitsLemmas
set_option linter.unusedVariables false
namespace Go.Proofs.YtbdlhhajblhmiaaDoor.Bv
open Go.RowKit Go.Proofs.YtbdlhhajblhmiaaDoorW.PrintWords

/-- A word without signs, as a number. -/
def U (x : BitVec 64) : Int := (x.toNat : Int)
/-- A word, signed, as a number. -/
def S (x : BitVec 64) : Int := x.toInt

theorem U_nonneg (x : BitVec 64) : 0 ≤ U x := Int.natCast_nonneg _
theorem U_lt (x : BitVec 64) : U x < 18446744073709551616 := by unfold U; have := x.isLt; omega
theorem S_ge (x : BitVec 64) : -9223372036854775808 ≤ S x := by unfold S; have := BitVec.le_toInt x; simpa using this
theorem S_lt (x : BitVec 64) : S x < 9223372036854775808 := by unfold S; have := BitVec.toInt_lt (x := x); simpa using this
theorem ofU (x : BitVec 64) : BitVec.ofInt 64 (U x) = x := by unfold U; simp
theorem ofS (x : BitVec 64) : BitVec.ofInt 64 (S x) = x := by unfold S; simp
theorem U_inj {x y : BitVec 64} : U x = U y ↔ x = y := ⟨fun h => by rw [← ofU x, h, ofU], fun h => by rw [h]⟩
theorem S_inj {x y : BitVec 64} : S x = S y ↔ x = y := ⟨fun h => by rw [← ofS x, h, ofS], fun h => by rw [h]⟩
theorem U_beq (x y : BitVec 64) : (U x == U y) = decide (x = y) := by
  rw [Bool.eq_iff_iff]; simp [U_inj]
theorem S_beq (x y : BitVec 64) : (S x == S y) = decide (x = y) := by
  rw [Bool.eq_iff_iff]; simp [S_inj]
theorem U_ofInt (n : Int) : U (BitVec.ofInt 64 n) = n % 18446744073709551616 := by
  unfold U; rw [BitVec.toNat_ofInt]; omega
theorem S_ofInt (n : Int) : S (BitVec.ofInt 64 n) = wrap64 n := by
  unfold S; rw [BitVec.toInt_ofInt]; unfold wrap64; rw [Int.bmod_def]; omega
theorem U_of {n : Int} (h0 : 0 ≤ n) (h1 : n < 18446744073709551616) : U (BitVec.ofInt 64 n) = n := by rw [U_ofInt]; omega
theorem S_of {n : Int} (h0 : -9223372036854775808 ≤ n) (h1 : n < 9223372036854775808) : S (BitVec.ofInt 64 n) = n := by
  rw [S_ofInt]; unfold wrap64; omega
theorem wf_u64 {a : Int} (h : (Lit.int .u64 a).wf = true) : 0 ≤ a ∧ a < 18446744073709551616 := by
  simp [Lit.wf, IntKind.min, IntKind.max, IntKind.signed, IntKind.bits] at h; omega
theorem wf_i64 {a : Int} (h : (Lit.int .i64 a).wf = true) : -9223372036854775808 ≤ a ∧ a < 9223372036854775808 := by
  simp [Lit.wf, IntKind.min, IntKind.max, IntKind.signed, IntKind.bits] at h; omega
theorem wf_u8 {a : Int} (h : (Lit.int .u8 a).wf = true) : 0 ≤ a ∧ a < 256 := by
  simp [Lit.wf, IntKind.min, IntKind.max, IntKind.signed, IntKind.bits] at h; omega
theorem ex_U {a : Int} (h : (Lit.int .u64 a).wf = true) : ∃ x, a = U x := ⟨_, (U_of (wf_u64 h).1 (wf_u64 h).2).symm⟩
theorem ex_S {a : Int} (h : (Lit.int .i64 a).wf = true) : ∃ x, a = S x := ⟨_, (S_of (wf_i64 h).1 (wf_i64 h).2).symm⟩
theorem wrapU (n : Int) : IntKind.u64.wrap n = U (BitVec.ofInt 64 n) := by rw [U_ofInt, IntKind.wrap_u64]
theorem wrapS (n : Int) : wrap64 n = S (BitVec.ofInt 64 n) := (S_ofInt n).symm
theorem wrap_in {n : Int} (h0 : -9223372036854775808 ≤ n) (h1 : n < 9223372036854775808) : wrap64 n = n := by unfold wrap64; omega
theorem wrapu_in {n : Int} (h0 : 0 ≤ n) (h1 : n < 18446744073709551616) : IntKind.u64.wrap n = n := by rw [IntKind.wrap_u64]; omega
theorem wrapSU (x : BitVec 64) : wrap64 (U x) = S x := by rw [wrapS, ofU]
theorem wrapUS (x : BitVec 64) : IntKind.u64.wrap (S x) = U x := by rw [wrapU, ofS]
theorem wrapUU (x : BitVec 64) : IntKind.u64.wrap (U x) = U x := by rw [wrapU, ofU]
theorem wrapSS (x : BitVec 64) : wrap64 (S x) = S x := by rw [wrapS, ofS]
theorem addU (x y : BitVec 64) : IntKind.u64.wrap (U x + U y) = U (x + y) := by rw [wrapU, BitVec.ofInt_add, ofU, ofU]
theorem addS (x y : BitVec 64) : wrap64 (S x + S y) = S (x + y) := by rw [wrapS, BitVec.ofInt_add, ofS, ofS]
theorem mulU (x y : BitVec 64) : IntKind.u64.wrap (U x * U y) = U (x * y) := by rw [wrapU, BitVec.ofInt_mul, ofU, ofU]
theorem subU (x y : BitVec 64) : IntKind.u64.wrap (U x - U y) = U (x - y) := by
  rw [wrapU, Int.sub_eq_add_neg, BitVec.ofInt_add, BitVec.ofInt_neg, ofU, ofU]; rw [BitVec.sub_eq_add_neg]
theorem and_U (x y : BitVec 64) : Go.bits .and .u64 (U x) (U y) = U (x &&& y) := by
  show IntKind.u64.wrap ((BitVec.ofInt 64 (U x) &&& BitVec.ofInt 64 (U y)).toNat : Int) = _
  rw [ofU, ofU]; exact wrapUU _
theorem or_U (x y : BitVec 64) : Go.bits .or .u64 (U x) (U y) = U (x ||| y) := by
  show IntKind.u64.wrap ((BitVec.ofInt 64 (U x) ||| BitVec.ofInt 64 (U y)).toNat : Int) = _
  rw [ofU, ofU]; exact wrapUU _
theorem xor_U (x y : BitVec 64) : Go.bits .xor .u64 (U x) (U y) = U (x ^^^ y) := by
  show IntKind.u64.wrap ((BitVec.ofInt 64 (U x) ^^^ BitVec.ofInt 64 (U y)).toNat : Int) = _
  rw [ofU, ofU]; exact wrapUU _
theorem andNot_U (x y : BitVec 64) : Go.bits .andNot .u64 (U x) (U y) = U (x &&& ~~~y) := by
  show IntKind.u64.wrap ((BitVec.ofInt 64 (U x) &&& ~~~(BitVec.ofInt 64 (U y))).toNat : Int) = _
  rw [ofU, ofU]; exact wrapUU _
theorem ofInt_mul_pow (x : BitVec 64) (k : Nat) : BitVec.ofInt 64 (U x * 2 ^ k) = x <<< k := by
  apply BitVec.eq_of_toNat_eq
  have e : U x * 2 ^ k = ((x.toNat * 2 ^ k : Nat) : Int) := by unfold U; simp
  rw [e, BitVec.ofInt_natCast, BitVec.toNat_ofNat, BitVec.toNat_shiftLeft, Nat.shiftLeft_eq]
theorem shl_U (x : BitVec 64) (s : Int) : shl .u64 (U x) s = U (x <<< s.toNat) := by
  unfold shl
  rw [wrapU, U_inj, show (IntKind.u64.bits : Nat) = 64 from rfl, ofInt_mul_pow]
  by_cases h : s.toNat ≤ 64
  · rw [Nat.min_eq_left h]
  · rw [Nat.min_eq_right (by omega)]
    rw [BitVec.shiftLeft_eq_zero (Nat.le_refl _), BitVec.shiftLeft_eq_zero (by omega)]
theorem shr_U (x : BitVec 64) (s : Int) : shr .u64 (U x) s = U (x >>> s.toNat) := by
  unfold shr U
  rw [BitVec.toNat_ushiftRight, Nat.shiftRight_eq_div_pow]
  by_cases h : s.toNat ≤ 64
  · rw [show (IntKind.u64.bits : Nat) = 64 from rfl, Nat.min_eq_left h]; simp
  · rw [show (IntKind.u64.bits : Nat) = 64 from rfl, Nat.min_eq_right (by omega)]
    have hx := x.isLt
    rw [Nat.div_eq_of_lt (Nat.lt_of_lt_of_le hx (Nat.pow_le_pow_right (by decide) (by omega)))]
    omega
theorem shr_S (x : BitVec 64) (s : Int) (h : s.toNat ≤ 64) : shr .i64 (S x) s = S (x.sshiftRight s.toNat) := by
  unfold shr S
  rw [show (IntKind.i64.bits : Nat) = 64 from rfl, Nat.min_eq_left h, BitVec.toInt_sshiftRight, Int.shiftRight_eq_div_pow]
  simp
end Go.Proofs.YtbdlhhajblhmiaaDoor.Bv
