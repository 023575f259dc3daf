/- What the functions of package alu that hold a table of functions, or a map, come to, for every word: contracts, walked. -/
import Derived.Test.YtcjcbnhncfohmaaProg
import Derived.Test.YtcjcbnhncfohmaaBv
import Derived.Test.YtcjcbnhncfohmaaWWords
import Derived.Test.YtcjcbnhncfohmaaWMore
import Derived.Test.YtcjcbnhncfohmaaWLast
import Derived.WalkKit
import Derived.Outline
import Derived.Laws.EntriesVeiled
import Derived.WalkLawsBesides
import Derived.WalkSpells
import Derived.Maps.OwnSet
import Derived.Lib.Mul64
import Derived.Laws.Bits64b
set_option linter.unusedVariables false
set_option linter.unusedSimpArgs false
namespace Go.Proofs.Ytcjcbnhncfohmaa.Hand
open Go Go.RowKit Go.Proofs Go.Proofs.YtcjcbnhncfohmaaW.PrintWords Go.Proofs.Ytcjcbnhncfohmaa.Bv Go.Maps

/-! ### 1. What is reckoned, in words -/
def one (b : Bool) : BitVec 64 := if b then 1#64 else 0#64
/-- What each operation of two comes to. -/
def twoW : Nat → BitVec 64 → BitVec 64 → BitVec 64
  | 0, x, y => x + y
  | 1, x, y => x - y
  | 2, x, y => x <<< (y.toNat % 64)
  | 3, x, y => one (decide (S x < S y))
  | 4, x, y => one (decide (U x < U y))
  | 5, x, y => x ^^^ y
  | 6, x, y => x >>> (y.toNat % 64)
  | 7, x, y => x.sshiftRight (y.toNat % 64)
  | 8, x, y => x ||| y
  | 9, x, y => x &&& y
  | 10, x, y => x * y
  | 11, x, y => BitVec.ofNat 64 (x.toNat * y.toNat / 18446744073709551616)
  | 12, x, y => if U y = 0 then BitVec.ofInt 64 (-1) else BitVec.ofInt 64 (Int.tdiv (S x) (S y))
  | 13, x, y => if U y = 0 then BitVec.ofInt 64 (-1) else BitVec.ofInt 64 (U x / U y)
  | 14, x, y => if U y = 0 then x else BitVec.ofInt 64 (Int.tmod (S x) (S y))
  | 15, x, y => if U y = 0 then x else BitVec.ofInt 64 (U x % U y)
  | _, _, _ => 0#64
/-- The operation of two, of one with a number. -/
def withN : Nat → Int
  | 16 => 0 | 17 => 3 | 18 => 4 | 19 => 5 | 20 => 8 | 21 => 9 | 22 => 2 | 23 => 6 | 24 => 7 | _ => 0

/-! ### 2. The functions of the table -/
theorem ret_int {k : IntKind} {a b : Int} (h : a = b) : Ending.returned (.int k a) = .returned (.int k b) := by rw [h]
theorem and63 (y : BitVec 64) : Go.bits .and .u64 (U y) 63 = ((y.toNat % 64 : Nat) : Int) := by
  have e : (63 : Int) = U 63#64 := rfl
  rw [e, and_U]
  unfold U
  rw [BitVec.toNat_and, show (63#64).toNat = 2 ^ 6 - 1 from rfl, Nat.and_two_pow_sub_one_eq_mod]
theorem c26 (x y : BitVec 64) (w : World) : Calls Try.prog 26 #[.int .u64 (U x), .int .u64 (U y)] w fun e w' => e = .returned (.int .u64 (U (x + y))) ∧ w' = w := by
  go_enter Try.func26, Try.ntmps26
  go_wp2
  go_ret
  exact ⟨ret_int (addU x y), rfl⟩
theorem c27 (x y : BitVec 64) (w : World) : Calls Try.prog 27 #[.int .u64 (U x), .int .u64 (U y)] w fun e w' => e = .returned (.int .u64 (U (x - y))) ∧ w' = w := by
  go_enter Try.func27, Try.ntmps27
  go_wp2
  go_ret
  exact ⟨ret_int (subU x y), rfl⟩
theorem c28 (x y : BitVec 64) (w : World) : Calls Try.prog 28 #[.int .u64 (U x), .int .u64 (U y)] w fun e w' => e = .returned (.int .u64 (U (x <<< (y.toNat % 64)))) ∧ w' = w := by
  have h := and63 y
  obtain ⟨s, hs⟩ : ∃ s : Nat, s = y.toNat % 64 := ⟨_, rfl⟩
  have hs2 : s ≤ 63 := by omega
  rw [← hs] at h ⊢
  clear hs
  have h0 : (0 : Int) ≤ s := by omega
  have h1 : (s : Int) ≤ 63 := by omega
  go_enter Try.func28, Try.ntmps28
  go_wp2
  go_ret
  exact ⟨ret_int (by have := shl_U x (s : Int); unfold shl at this; simpa [IntKind.bits, Nat.min_eq_left (show s ≤ 64 by omega)] using this), rfl⟩
theorem bit_yes (w : World) : Calls Try.prog 30 #[.bool true] w fun e w' => e = .returned (.int .u64 1) ∧ w' = w := by
  go_enter Try.func30, Try.ntmps30
  go_wp2
  go_ret
  exact ⟨rfl, rfl⟩
theorem bit_no (w : World) : Calls Try.prog 30 #[.bool false] w fun e w' => e = .returned (.int .u64 0) ∧ w' = w := by
  go_enter Try.func30, Try.ntmps30
  go_wp2
  go_ret
  exact ⟨rfl, rfl⟩
theorem one_any (b : Bool) (w : World) : Calls Try.prog 30 #[.bool b] w fun e w' => e = .returned (.int .u64 (U (one b))) ∧ w' = w := by
  cases b with
  | true => exact bit_yes w
  | false => exact bit_no w
theorem c29 (x y : BitVec 64) (w : World) : Calls Try.prog 29 #[.int .u64 (U x), .int .u64 (U y)] w fun e w' => e = .returned (.int .u64 (U (one (decide (S x < S y))))) ∧ w' = w := by
  have hx := wrapSU x
  have hy := wrapSU y
  go_enter Try.func29, Try.ntmps29
  go_wp2_with (go_at_call 30; refine (one_any _ _).mono ?_; rintro e w' ⟨rfl, rfl⟩)
  go_ret
  exact ⟨rfl, rfl⟩
theorem c31 (x y : BitVec 64) (w : World) : Calls Try.prog 31 #[.int .u64 (U x), .int .u64 (U y)] w fun e w' => e = .returned (.int .u64 (U (one (decide (U x < U y))))) ∧ w' = w := by
  go_enter Try.func31, Try.ntmps31
  go_wp2_with (go_at_call 30; refine (one_any _ _).mono ?_; rintro e w' ⟨rfl, rfl⟩)
  go_ret
  exact ⟨rfl, rfl⟩
theorem c32 (x y : BitVec 64) (w : World) : Calls Try.prog 32 #[.int .u64 (U x), .int .u64 (U y)] w fun e w' => e = .returned (.int .u64 (U (x ^^^ y))) ∧ w' = w := by
  go_enter Try.func32, Try.ntmps32
  go_wp2
  go_ret
  exact ⟨ret_int (xor_U x y), rfl⟩
theorem c33 (x y : BitVec 64) (w : World) : Calls Try.prog 33 #[.int .u64 (U x), .int .u64 (U y)] w fun e w' => e = .returned (.int .u64 (U (x >>> (y.toNat % 64)))) ∧ w' = w := by
  have h := and63 y
  obtain ⟨s, hs⟩ : ∃ s : Nat, s = y.toNat % 64 := ⟨_, rfl⟩
  have hs2 : s ≤ 63 := by omega
  rw [← hs] at h ⊢
  clear hs
  have h0 : (0 : Int) ≤ s := by omega
  have h1 : (s : Int) ≤ 63 := by omega
  go_enter Try.func33, Try.ntmps33
  go_wp2
  go_ret
  exact ⟨ret_int (by have := shr_U x (s : Int); unfold shr at this; simpa [IntKind.bits, Nat.min_eq_left (show s ≤ 64 by omega)] using this), rfl⟩
theorem c34 (x y : BitVec 64) (w : World) : Calls Try.prog 34 #[.int .u64 (U x), .int .u64 (U y)] w fun e w' => e = .returned (.int .u64 (U (x.sshiftRight (y.toNat % 64)))) ∧ w' = w := by
  have h := and63 y
  obtain ⟨s, hs⟩ : ∃ s : Nat, s = y.toNat % 64 := ⟨_, rfl⟩
  have hs2 : s ≤ 63 := by omega
  rw [← hs] at h ⊢
  clear hs
  have h0 : (0 : Int) ≤ s := by omega
  have h1 : (s : Int) ≤ 63 := by omega
  have hx := wrapSU x
  go_enter Try.func34, Try.ntmps34
  go_wp2
  go_ret
  exact ⟨ret_int (by have := shr_S x (s : Int) (by omega); unfold shr at this; rw [Int.toNat_natCast, show IntKind.i64.bits = 64 from rfl, Nat.min_eq_left (by omega)] at this; rw [← wrapUS, ← this]), rfl⟩
theorem c35 (x y : BitVec 64) (w : World) : Calls Try.prog 35 #[.int .u64 (U x), .int .u64 (U y)] w fun e w' => e = .returned (.int .u64 (U (x ||| y))) ∧ w' = w := by
  go_enter Try.func35, Try.ntmps35
  go_wp2
  go_ret
  exact ⟨ret_int (or_U x y), rfl⟩
theorem c36 (x y : BitVec 64) (w : World) : Calls Try.prog 36 #[.int .u64 (U x), .int .u64 (U y)] w fun e w' => e = .returned (.int .u64 (U (x &&& y))) ∧ w' = w := by
  go_enter Try.func36, Try.ntmps36
  go_wp2
  go_ret
  exact ⟨ret_int (and_U x y), rfl⟩
theorem c37 (x y : BitVec 64) (w : World) : Calls Try.prog 37 #[.int .u64 (U x), .int .u64 (U y)] w fun e w' => e = .returned (.int .u64 (U (x * y))) ∧ w' = w := by
  go_enter Try.func37, Try.ntmps37
  go_wp2
  go_ret
  exact ⟨ret_int (mulU x y), rfl⟩
namespace Mul
theorem maskN (a : Nat) (ha : a < 18446744073709551616) : Go.bits .and .u64 (a : Int) 4294967295 = ((a % 4294967296 : Nat) : Int) := by
  have h := bits_and_u64_nat a 4294967295 ha (by omega)
  have e : a &&& 4294967295 = a % 4294967296 := Nat.and_two_pow_sub_one_eq_mod a 32
  rw [e] at h
  exact h
theorem divN (a : Nat) : (a : Int) / 4294967296 = ((a / 4294967296 : Nat) : Int) := by omega
theorem mulN (a b : Nat) : (a : Int) * (b : Int) = ((a * b : Nat) : Int) := (Int.natCast_mul a b).symm
theorem addN (a b : Nat) : (a : Int) + (b : Int) = ((a + b : Nat) : Int) := (Int.natCast_add a b).symm
theorem wrapN (a : Nat) (ha : a < 18446744073709551616) : IntKind.u64.wrap (a : Int) = (a : Int) := by rw [IntKind.wrap_u64]; omega
theorem wrapM (a : Nat) : IntKind.u64.wrap (a : Int) = ((a % 18446744073709551616 : Nat) : Int) := by rw [IntKind.wrap_u64]; omega
end Mul
set_option maxHeartbeats 1000000 in
theorem mul64 (x y : Nat) (hx : x < 18446744073709551616) (hy : y < 18446744073709551616) (w : World) :
    Calls Try.prog 39 #[.int .u64 x, .int .u64 y] w fun e w' => e = .returned (.tuple #[.int .u64 ((x * y / 18446744073709551616 : Nat) : Int), .int .u64 ((x * y % 18446744073709551616 : Nat) : Int)]) ∧ w' = w := by
  obtain ⟨bd, bt, bw, hhi⟩ := Lib.mul64_hi x y hx hy
  have ba := Lib.half_mul_le (a := x / 4294967296) (b := y / 4294967296) (by omega) (by omega)
  have bb := Lib.half_mul_le (a := x / 4294967296) (b := y % 4294967296) (by omega) (by omega)
  have bc := Lib.half_mul_le (a := x % 4294967296) (b := y / 4294967296) (by omega) (by omega)
  have ba' : x / 4294967296 * (y / 4294967296) < 18446744073709551616 := by omega
  have bb' : x / 4294967296 * (y % 4294967296) < 18446744073709551616 := by omega
  have bc' : x % 4294967296 * (y / 4294967296) < 18446744073709551616 := by omega
  have bh1 : x / 4294967296 * (y / 4294967296) + (x / 4294967296 * (y % 4294967296) + x % 4294967296 * (y % 4294967296) / 4294967296) / 4294967296 < 18446744073709551616 := by omega
  have bh : x / 4294967296 * (y / 4294967296) + (x / 4294967296 * (y % 4294967296) + x % 4294967296 * (y % 4294967296) / 4294967296) / 4294967296 + ((x / 4294967296 * (y % 4294967296) + x % 4294967296 * (y % 4294967296) / 4294967296) % 4294967296 + x % 4294967296 * (y / 4294967296)) / 4294967296 < 18446744073709551616 := by omega
  go_enter Try.func39, Try.ntmps39
  go_wp2
  simp only [Mul.maskN x hx, Mul.maskN y hy, Mul.divN, Mul.mulN, Mul.addN, Mul.wrapN _ bd, Mul.wrapN _ bb', Mul.wrapN _ bt, Mul.maskN _ bt, Mul.wrapN _ bc', Mul.wrapN _ bw, Mul.wrapN _ ba', Mul.wrapN _ bh1, Mul.wrapN _ bh, Mul.wrapM (x * y)]
  rw [hhi]
  go_ret2
  exact ⟨rfl, rfl⟩
theorem c38 (x y : BitVec 64) (w : World) : Calls Try.prog 38 #[.int .u64 (U x), .int .u64 (U y)] w fun e w' => e = .returned (.int .u64 (U (BitVec.ofNat 64 (x.toNat * y.toNat / 18446744073709551616)))) ∧ w' = w := by
  have hm : ∀ w, Calls Try.prog 39 #[.int .u64 (U x), .int .u64 (U y)] w fun e w' => e = .returned (.tuple #[.int .u64 (U (BitVec.ofNat 64 (x.toNat * y.toNat / 18446744073709551616))), .int .u64 ((x.toNat * y.toNat % 18446744073709551616 : Nat) : Int)]) ∧ w' = w := by
    intro w
    have g := mul64 x.toNat y.toNat x.isLt y.isLt w
    have e : U (BitVec.ofNat 64 (x.toNat * y.toNat / 18446744073709551616)) = ((x.toNat * y.toNat / 18446744073709551616 : Nat) : Int) := by
      unfold U
      have hx := x.isLt
      have hy := y.isLt
      have hle : x.toNat * y.toNat ≤ 18446744073709551615 * 18446744073709551615 := Nat.mul_le_mul (by omega) (by omega)
      rw [BitVec.toNat_ofNat, Nat.mod_eq_of_lt]
      omega
    rw [e]; exact g
  go_enter Try.func38, Try.ntmps38
  go_wp2_with (go_at_call 39; refine (hm _).mono ?_; rintro e w' ⟨rfl, rfl⟩)
  go_ret
  exact ⟨rfl, rfl⟩
/-! ### 3. Division -/
theorem over_no (a b : Int) (h : ¬ (a = -9223372036854775808 ∧ b = -1)) (w : World) : Calls Try.prog 48 #[.int .i64 a, .int .i64 b] w fun e w' => e = .returned (.bool false) ∧ w' = w := by
  by_cases ha : a = -9223372036854775808
  · have hb : (b == -1) = false := by simp; omega
    have ha' : (a == -9223372036854775808) = true := by simp [ha]
    clear ha h
    go_enter Try.func48, Try.ntmps48
    go_wp2
    go_ret
    exact ⟨rfl, rfl⟩
  · have ha' : (a == -9223372036854775808) = false := by simp [ha]
    clear ha h
    go_enter Try.func48, Try.ntmps48
    go_wp2
    go_ret
    exact ⟨rfl, rfl⟩
theorem over_yes (w : World) : Calls Try.prog 48 #[.int .i64 (-9223372036854775808), .int .i64 (-1)] w fun e w' => e = .returned (.bool true) ∧ w' = w := by
  go_enter Try.func48, Try.ntmps48
  go_wp2
  go_ret
  exact ⟨rfl, rfl⟩
def divI (a b : Int) : Int := if b = 0 then -1 else wrap64 (Int.tdiv a b)
def remI (a b : Int) : Int := if b = 0 then a else Int.tmod a b
theorem div_any (a b : Int) (h0 : -9223372036854775808 ≤ a) (h1 : a < 9223372036854775808) (w : World) : Calls Try.prog 41 #[.int .i64 a, .int .i64 b] w fun e w' => e = .returned (.int .i64 (divI a b)) ∧ w' = w := by
  by_cases hb : b = 0
  · subst hb
    go_enter Try.func41, Try.ntmps41
    go_wp2
    go_ret
    exact ⟨rfl, rfl⟩
  · by_cases ho : a = -9223372036854775808 ∧ b = -1
    · obtain ⟨rfl, rfl⟩ := ho
      go_enter Try.func41, Try.ntmps41
      go_wp2_with (go_at_call 48; refine (over_yes _).mono ?_; rintro e w' ⟨rfl, rfl⟩)
      go_ret
      exact ⟨ret_int (by decide +kernel), rfl⟩
    · have hb' : (b == 0) = false := by simp [hb]
      have hov := over_no a b ho
      have hx : divI a b = wrap64 (Int.tdiv a b) := by unfold divI; rw [if_neg hb]
      rw [hx]
      clear hx ho
      go_enter Try.func41, Try.ntmps41
      go_wp2_with (go_at_call 48; refine (hov _).mono ?_; rintro e w' ⟨rfl, rfl⟩)
      go_ret
      exact ⟨rfl, rfl⟩
theorem rem_any (a b : Int) (h0 : -9223372036854775808 ≤ a) (h1 : a < 9223372036854775808) (w : World) : Calls Try.prog 44 #[.int .i64 a, .int .i64 b] w fun e w' => e = .returned (.int .i64 (remI a b)) ∧ w' = w := by
  by_cases hb : b = 0
  · subst hb
    go_enter Try.func44, Try.ntmps44
    go_wp2
    go_ret
    exact ⟨rfl, rfl⟩
  · by_cases ho : a = -9223372036854775808 ∧ b = -1
    · obtain ⟨rfl, rfl⟩ := ho
      go_enter Try.func44, Try.ntmps44
      go_wp2_with (go_at_call 48; refine (over_yes _).mono ?_; rintro e w' ⟨rfl, rfl⟩)
      go_ret
      exact ⟨ret_int (by decide +kernel), rfl⟩
    · have hb' : (b == 0) = false := by simp [hb]
      have hov := over_no a b ho
      have hx : remI a b = Int.tmod a b := by unfold remI; rw [if_neg hb]
      rw [hx]
      clear hx ho
      go_enter Try.func44, Try.ntmps44
      go_wp2_with (go_at_call 48; refine (hov _).mono ?_; rintro e w' ⟨rfl, rfl⟩)
      go_ret
      exact ⟨rfl, rfl⟩
theorem U_zero_S (y : BitVec 64) : U y = 0 ↔ S y = 0 := by
  have e0 : (0 : Int) = U 0#64 := rfl
  have e1 : (0 : Int) = S 0#64 := rfl
  constructor
  · intro h; rw [e0, U_inj] at h; rw [h]; rfl
  · intro h; rw [e1, S_inj] at h; rw [h]; rfl
theorem c40 (x y : BitVec 64) (w : World) : Calls Try.prog 40 #[.int .u64 (U x), .int .u64 (U y)] w fun e w' => e = .returned (.int .u64 (U (twoW 12 x y))) ∧ w' = w := by
  have hx := wrapSU x
  have hy := wrapSU y
  have hd := div_any (S x) (S y) (S_ge x) (S_lt x)
  have e : IntKind.u64.wrap (divI (S x) (S y)) = U (twoW 12 x y) := by
    show _ = U (if U y = 0 then _ else _)
    unfold divI
    by_cases h : U y = 0
    · rw [if_pos h, if_pos ((U_zero_S y).1 h), wrapU]
    · rw [if_neg h, if_neg (fun g => h ((U_zero_S y).2 g)), wrapU, wrapS, ofS]
  obtain ⟨D, hD⟩ : ∃ D, divI (S x) (S y) = D := ⟨_, rfl⟩
  rw [hD] at hd e
  clear hD
  refine Calls.mono (R := fun e w' => e = .returned (.int .u64 (IntKind.u64.wrap D)) ∧ w' = w) ?_ (fun _ _ ⟨h, h'⟩ => ⟨by rw [h, e], h'⟩)
  clear e
  go_enter Try.func40, Try.ntmps40
  go_wp2_with (go_at_call 41; refine (hd _).mono ?_; rintro e w' ⟨rfl, rfl⟩)
  go_ret
  exact ⟨rfl, rfl⟩
theorem c43 (x y : BitVec 64) (w : World) : Calls Try.prog 43 #[.int .u64 (U x), .int .u64 (U y)] w fun e w' => e = .returned (.int .u64 (U (twoW 14 x y))) ∧ w' = w := by
  have hx := wrapSU x
  have hy := wrapSU y
  have hd := rem_any (S x) (S y) (S_ge x) (S_lt x)
  have e : IntKind.u64.wrap (remI (S x) (S y)) = U (twoW 14 x y) := by
    show _ = U (if U y = 0 then _ else _)
    unfold remI
    by_cases h : U y = 0
    · rw [if_pos h, if_pos ((U_zero_S y).1 h), wrapUS]
    · rw [if_neg h, if_neg (fun g => h ((U_zero_S y).2 g)), wrapU]
  obtain ⟨D, hD⟩ : ∃ D, remI (S x) (S y) = D := ⟨_, rfl⟩
  rw [hD] at hd e
  clear hD
  refine Calls.mono (R := fun e w' => e = .returned (.int .u64 (IntKind.u64.wrap D)) ∧ w' = w) ?_ (fun _ _ ⟨h, h'⟩ => ⟨by rw [h, e], h'⟩)
  clear e
  go_enter Try.func43, Try.ntmps43
  go_wp2_with (go_at_call 44; refine (hd _).mono ?_; rintro e w' ⟨rfl, rfl⟩)
  go_ret
  exact ⟨rfl, rfl⟩
theorem c42 (x y : BitVec 64) (w : World) : Calls Try.prog 42 #[.int .u64 (U x), .int .u64 (U y)] w fun e w' => e = .returned (.int .u64 (U (twoW 13 x y))) ∧ w' = w := by
  show Calls _ _ _ _ fun e w' => e = .returned (.int .u64 (U (if U y = 0 then _ else _))) ∧ w' = w
  have hx := U_nonneg x
  have hx1 := U_lt x
  have hy := U_nonneg y
  by_cases h : U y = 0
  · rw [if_pos h]
    have h' : (U y == 0) = true := by simp [h]
    clear h
    go_enter Try.func42, Try.ntmps42
    go_wp2
    go_ret
    exact ⟨rfl, rfl⟩
  · rw [if_neg h, ← wrapU]
    have hq : IntKind.u64.wrap (U x / U y) = U x / U y := wrapu_in (Int.ediv_nonneg hx hy) (Int.lt_of_le_of_lt (Int.ediv_le_self _ hx) hx1)
    rw [hq]
    clear hq
    have h' : (U y == 0) = false := by simp [h]
    have h1 : 1 ≤ U y := by omega
    generalize U x = a at *
    generalize U y = b at *
    go_enter Try.func42, Try.ntmps42
    go_wp2
    go_ret
    exact ⟨rfl, rfl⟩
theorem c45 (x y : BitVec 64) (w : World) : Calls Try.prog 45 #[.int .u64 (U x), .int .u64 (U y)] w fun e w' => e = .returned (.int .u64 (U (twoW 15 x y))) ∧ w' = w := by
  show Calls _ _ _ _ fun e w' => e = .returned (.int .u64 (U (if U y = 0 then _ else _))) ∧ w' = w
  have hx := U_nonneg x
  have hx1 := U_lt x
  have hy := U_nonneg y
  have hy1 := U_lt y
  by_cases h : U y = 0
  · rw [if_pos h]
    have h' : (U y == 0) = true := by simp [h]
    clear h
    go_enter Try.func45, Try.ntmps45
    go_wp2
    go_ret
    exact ⟨rfl, rfl⟩
  · rw [if_neg h, ← wrapU]
    have hq : IntKind.u64.wrap (U x % U y) = U x % U y := wrapu_in (Int.emod_nonneg _ h) (Int.lt_trans (Int.emod_lt_of_pos _ (by omega)) hy1)
    rw [hq]
    clear hq
    have h' : (U y == 0) = false := by simp [h]
    have h1 : 1 ≤ U y := by omega
    generalize U x = a at *
    generalize U y = b at *
    go_enter Try.func45, Try.ntmps45
    go_wp2
    go_ret
    exact ⟨rfl, rfl⟩
end Go.Proofs.Ytcjcbnhncfohmaa.Hand
