/- What the printed functions of the packages bits and caponierref01 come to, in words of 64 bits. -/
import Derived.Test.YtldpmehcpiamlaaQBitsRowsx3
import Derived.Test.YtldpmehcpiamlaaBy
set_option linter.unusedVariables false
set_option linter.unusedSimpArgs false
namespace Go.Proofs.Ytldpmehcpiamlaa.LBitsRows
open Go.RowKit Go.Proofs.Ytldpmehcpiamlaa.PBitsRows Go.Proofs.YtldpmehcpiamlaaW.PrintWords Go.Proofs.YtldpmehcpiamlaaW.PrintLast Go.Proofs.Ytldpmehcpiamlaa.Bv Go.Proofs.Ytldpmehcpiamlaa.Bw Go.Proofs.Ytldpmehcpiamlaa.By

theorem may_yes {f n : Int} (h0 : 0 ≤ f) (h1 : 0 ≤ n) (h2 : f + n ≤ 64) : bits_may.f f n = some true := by
  unfold bits_may.f
  rw [if_pos h0, if_pos (by omega), if_pos h1, wrap_in (by omega) (by omega), decide_eq_true (by omega)]
theorem may_no {f n : Int} (h : ¬ (0 ≤ f ∧ 0 ≤ n ∧ f + n ≤ 64)) : bits_may.f f n = some false := by
  unfold bits_may.f
  by_cases h0 : f ≥ 0
  · rw [if_pos h0]
    by_cases h1 : f ≤ 64
    · rw [if_pos h1]
      by_cases h2 : n ≥ 0
      · rw [if_pos h2, wrap_in (by omega) (by omega), decide_eq_false (by omega)]
      · rw [if_neg h2]
    · rw [if_neg h1]
  · rw [if_neg h0]
theorem one_U : (1 : Int) = U 1#64 := rfl
theorem zero_U : (0 : Int) = U 0#64 := rfl
theorem mask_is {n : Int} (h : 0 ≤ n) : bits_mask.f n = some (U (msk n.toNat)) := by
  unfold bits_mask.f
  rw [if_pos h, one_U, shl_U, subU]; rfl
theorem field_yes (v : BitVec 64) {f n : Int} (h0 : 0 ≤ f) (h1 : 0 ≤ n) (h2 : f + n ≤ 64) : bits_Field.f (U v) f n = some (U (fld v f.toNat n.toNat), true) := by
  unfold bits_Field.f
  rw [may_yes h0 h1 h2]; simp only [Option.bind_some, if_true]; rw [if_pos h0, mask_is h1]; simp only [Option.bind_some]; rw [shr_U, and_U]; rfl
theorem field_no (a : Int) {f n : Int} (h : ¬ (0 ≤ f ∧ 0 ≤ n ∧ f + n ≤ 64)) : bits_Field.f a f n = some (0, false) := by
  unfold bits_Field.f
  rw [may_no h]; rfl
theorem put_yes (v x : BitVec 64) {f n : Int} (h0 : 0 ≤ f) (h1 : 0 ≤ n) (h2 : f + n ≤ 64) : bits_Put.f (U v) f n (U x) = some (U (pt v f.toNat n.toNat x), true) := by
  unfold bits_Put.f
  rw [may_yes h0 h1 h2]; simp only [Option.bind_some, if_true]; rw [mask_is h1]; simp only [Option.bind_some]; rw [if_pos h0, shl_U, and_U, shl_U, andNot_U, or_U]; rfl
theorem put_no (a b : Int) {f n : Int} (h : ¬ (0 ≤ f ∧ 0 ≤ n ∧ f + n ≤ 64)) : bits_Put.f a f n b = some (0, false) := by
  unfold bits_Put.f
  rw [may_no h]; rfl
theorem sign_yes (v : BitVec 64) {n : Int} (h1 : 1 ≤ n) (h2 : n ≤ 64) : bits_Sign.f (U v) n = some (S (sg v n.toNat)) := by
  unfold bits_Sign.f
  rw [if_neg (by omega), if_neg (by omega), wrap_in (n := 64 - n) (by omega) (by omega), if_pos (by omega), shl_U, wrapSU, shr_S _ _ (by omega)]
  unfold sg
  rw [show (64 - n).toNat = 64 - n.toNat by omega]
theorem sign_no (a : Int) {n : Int} (h : ¬ (1 ≤ n ∧ n ≤ 64)) : bits_Sign.f a n = some 0 := by
  unfold bits_Sign.f
  by_cases h1 : n < 1
  · rw [if_pos h1]
  · rw [if_neg h1, if_pos (by omega)]
theorem fits_yes (x : BitVec 64) {n : Int} (h1 : 1 ≤ n) (h2 : n ≤ 64) : bits_Fits.f (S x) n = some (decide (sg x n.toNat = x)) := by
  unfold bits_Fits.f
  rw [if_pos h1, if_pos h2, wrapUS, sign_yes x h1 h2]; simp only [Option.bind_some, S_beq]
theorem fits_no (a : Int) {n : Int} (h : ¬ (1 ≤ n ∧ n ≤ 64)) : bits_Fits.f a n = some false := by
  unfold bits_Fits.f
  by_cases h1 : n ≥ 1
  · rw [if_pos h1, if_neg (by omega)]
  · rw [if_neg h1]
theorem fitsU_yes (x : BitVec 64) {n : Int} (h1 : 1 ≤ n) (h2 : n ≤ 64) : bits_FitsU.f (U x) n = some (decide (x.toNat < 2 ^ n.toNat)) := by
  unfold bits_FitsU.f
  rw [if_pos h1, if_pos h2, mask_is (by omega)]
  simp only [Option.bind_some]
  rw [andNot_U, zero_U, U_beq, decide_eq_decide.mpr (mask_zero x n.toNat (by omega))]
theorem fitsU_no (a : Int) {n : Int} (h : ¬ (1 ≤ n ∧ n ≤ 64)) : bits_FitsU.f a n = some false := by
  unfold bits_FitsU.f
  by_cases h1 : n ≥ 1
  · rw [if_pos h1, if_neg (by omega)]
  · rw [if_neg h1]
theorem awake_is {k : Nat} (h : 12 ≤ k) : caponierlaw01_awake.f k = some true :=
  at_rounds (fun k => caponierlaw01_awake.mono k) h (by decide +kernel)
theorem same_l (l : List Int) (hl : l.length ≤ 140737488351232) (d : Nat) : ∀ i : Nat, i + d = l.length → ∀ k, d < k → caponierref01_Same.l0 k l l (i : Int) = some true := by
  induction d with
  | zero =>
    intro i hi k hk
    obtain ⟨k, rfl⟩ : ∃ m, k = m + 1 := ⟨k - 1, by omega⟩
    simp only [caponierref01_Same.l0]
    rw [if_neg (by omega)]
  | succ d ih =>
    intro i hi k hk
    obtain ⟨k, rfl⟩ : ∃ m, k = m + 1 := ⟨k - 1, by omega⟩
    simp only [caponierref01_Same.l0]
    rw [if_pos (by omega), if_pos (by omega), if_pos (by omega), if_pos trivial, wrap_in (by omega) (by omega)]
    exact ih (i + 1) (by omega) k (by omega)
theorem same_self (l : List Int) (hl : l.length ≤ 140737488351232) {k : Nat} (hk : l.length < k) : caponierref01_Same.f k l l = some true := by
  unfold caponierref01_Same.f
  rw [if_pos rfl]
  exact same_l l hl l.length 0 (by omega) k hk
theorem byte_of (v : BitVec 64) (i : Nat) (h : i ≤ 8) : shr .u64 (U v) (wrap64 (8 * (i : Int))) % 256 = ((v.toNat / 256 ^ i % 256 : Nat) : Int) := by
  rw [wrap_in (by omega) (by omega), shr_U]
  unfold U
  rw [BitVec.toNat_ushiftRight, Nat.shiftRight_eq_div_pow, show (8 * (i : Int)).toNat = 8 * i by omega, Nat.pow_mul]
  rfl
theorem bytes_l (v : BitVec 64) (n : Nat) (hn : n ≤ 8) (d : Nat) : ∀ i : Nat, i + d = n → ∀ k, d < k → bits_Bytes.l0 k (U v) (byt v.toNat i ++ List.replicate d 0) (n : Int) (i : Int) = some (byt v.toNat n) := by
  induction d with
  | zero =>
    intro i hi k hk
    obtain ⟨k, rfl⟩ : ∃ m, k = m + 1 := ⟨k - 1, by omega⟩
    obtain rfl : i = n := by omega
    simp only [bits_Bytes.l0]
    rw [if_neg (by omega)]; simp
  | succ d ih =>
    intro i hi k hk
    obtain ⟨k, rfl⟩ : ∃ m, k = m + 1 := ⟨k - 1, by omega⟩
    simp only [bits_Bytes.l0]
    rw [if_pos (by omega), if_pos (by rw [wrap_in (by omega) (by omega)]; omega), if_pos (by omega), if_pos (by simp [byt_length]; omega), byte_of v i (by omega), wrap_in (n := (i : Int) + 1) (by omega) (by omega)]
    have e : (byt v.toNat i ++ List.replicate (d + 1) 0).set (i : Int).toNat ((v.toNat / 256 ^ i % 256 : Nat) : Int) = byt v.toNat (i + 1) ++ List.replicate d 0 := by
      rw [Int.toNat_natCast, List.set_append_right _ _ (by rw [byt_length]; omega), byt_length, Nat.sub_self, List.replicate_succ, List.set_cons_zero, byt_succ, List.append_assoc]; rfl
    rw [e]
    exact ih (i + 1) (by omega) k (by omega)
theorem bytes_yes (v : BitVec 64) {n : Int} (h0 : 0 ≤ n) (h1 : n ≤ 8) {k : Nat} (hk : 12 ≤ k) : bits_Bytes.f k (U v) n = some (byt v.toNat n.toNat) := by
  unfold bits_Bytes.f
  obtain ⟨k, rfl⟩ : ∃ m, k = m + 1 := ⟨k - 1, by omega⟩
  rw [if_neg (by omega), decide_eq_false (by omega)]
  simp only [bits_Bytes.j0]
  rw [if_neg (by simp), if_pos h0, if_pos (by omega)]
  have g := bytes_l v n.toNat (by omega) n.toNat 0 (by omega) k (by omega)
  rw [Int.toNat_of_nonneg h0] at g
  simpa [byt] using g
theorem bytes_no (a : Int) {n : Int} (h : ¬ (0 ≤ n ∧ n ≤ 8)) {k : Nat} (hk : 12 ≤ k) : bits_Bytes.f k a n = some [] := by
  unfold bits_Bytes.f
  obtain ⟨k, rfl⟩ : ∃ m, k = m + 1 := ⟨k - 1, by omega⟩
  by_cases h1 : n < 0
  · rw [if_pos h1]; rfl
  · rw [if_neg h1, decide_eq_true (by omega)]; rfl
theorem word_l (l : List Int) (hl : l.length ≤ 8) (hb : isBytes l) (d : Nat) : ∀ i : Nat, i + d = l.length → ∀ k, d < k → bits_Word.l0 k (num (l.take i)) l (l.length : Int) (i : Int) = some (num l, true) := by
  induction d with
  | zero =>
    intro i hi k hk
    obtain ⟨k, rfl⟩ : ∃ m, k = m + 1 := ⟨k - 1, by omega⟩
    simp only [bits_Word.l0]
    rw [if_neg (by omega), List.take_of_length_le (by omega)]
  | succ d ih =>
    intro i hi k hk
    obtain ⟨k, rfl⟩ : ∃ m, k = m + 1 := ⟨k - 1, by omega⟩
    simp only [bits_Word.l0]
    rw [if_pos (by omega), if_pos (by omega), if_pos (by omega), if_pos (by rw [wrap_in (by omega) (by omega)]; omega), wrap_in (n := (i : Int) + 1) (by omega) (by omega)]
    have hr := rd_byte l hb i (by omega)
    have ht := num_bound (l.take i) (fun x hx => hb x (List.mem_of_mem_take hx))
    rw [List.length_take, Nat.min_eq_left (by omega)] at ht
    have hs := num_snoc l i (by omega)
    obtain ⟨a, ha⟩ : ∃ a : Nat, num (l.take i) = (a : Int) := ⟨(num (l.take i)).toNat, by omega⟩
    obtain ⟨c, hc⟩ : ∃ c : Nat, rd l (i : Int) = (c : Int) := ⟨(rd l (i : Int)).toNat, by omega⟩
    rw [ha] at ht hs ⊢
    rw [hc] at hr hs ⊢
    have e : ((256 ^ i : Nat) : Int) = 256 ^ i := by simp
    rw [or_byte a c i (by omega) (by omega) (by omega)]
    have e2 : ((a + 256 ^ i * c : Nat) : Int) = num (l.take (i + 1)) := by rw [hs, Int.natCast_add, Int.natCast_mul, e]
    rw [e2]
    exact ih (i + 1) (by omega) k (by omega)
theorem word_yes (l : List Int) (hl : l.length ≤ 8) (hb : isBytes l) {k : Nat} (hk : 12 ≤ k) : bits_Word.f k l = some (num l, true) := by
  unfold bits_Word.f
  rw [if_neg (by omega)]
  exact word_l l hl hb l.length 0 (by omega) k (by omega)
theorem word_no (l : List Int) (hl : ¬ l.length ≤ 8) {k : Nat} : bits_Word.f k l = some (0, false) := by
  unfold bits_Word.f
  rw [if_pos (by omega)]

end Go.Proofs.Ytldpmehcpiamlaa.LBitsRows
