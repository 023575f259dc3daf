/- Bytes of a word, least first, and the number that bytes are: plain laws, no program in sight. -/
import Derived.Test.YtldpmehcpiamlaaBw
set_option linter.unusedVariables false
set_option linter.unusedSimpArgs false
namespace Go.Proofs.Ytldpmehcpiamlaa.By
open Go.RowKit Go.Proofs.YtldpmehcpiamlaaW.PrintWords Go.Proofs.Ytldpmehcpiamlaa.Bv Go.Proofs.Ytldpmehcpiamlaa.Bw

/-- A number's lowest bytes, least first. -/
def byt (v n : Nat) : List Int := (List.range n).map fun i => ((v / 256 ^ i % 256 : Nat) : Int)
/-- The number that bytes are. -/
def num (l : List Int) : Int := l.foldr (fun c a => c + 256 * a) 0
/-- Every one is a byte. -/
def isBytes (l : List Int) : Prop := ∀ x ∈ l, 0 ≤ x ∧ x < 256

theorem byt_length (v n : Nat) : (byt v n).length = n := by simp [byt]
theorem byt_succ (v n : Nat) : byt v (n + 1) = byt v n ++ [((v / 256 ^ n % 256 : Nat) : Int)] := by
  simp [byt, List.range_succ]
theorem byt_isBytes (v n : Nat) : isBytes (byt v n) := by
  intro x hx
  simp only [byt, List.mem_map] at hx
  obtain ⟨i, _, rfl⟩ := hx
  omega
theorem num_nil : num [] = 0 := rfl
theorem num_cons (c : Int) (l : List Int) : num (c :: l) = c + 256 * num l := rfl
theorem num_bound (l : List Int) (h : isBytes l) : 0 ≤ num l ∧ num l < 256 ^ l.length := by
  induction l with
  | nil => simp [num]
  | cons c l ih =>
    have hc := h c (by simp)
    have := ih (fun x hx => h x (by simp [hx]))
    rw [num_cons, List.length_cons, Int.pow_succ]; omega
theorem num_append (l r : List Int) : num (l ++ r) = num l + 256 ^ l.length * num r := by
  induction l with
  | nil => simp [num]
  | cons c l ih =>
    rw [List.cons_append, num_cons, num_cons, ih, List.length_cons, Int.pow_succ, Int.mul_add, Int.add_assoc, ← Int.mul_assoc, Int.mul_comm 256 (256 ^ l.length)]
theorem num_zeros (n : Nat) : num (List.replicate n 0) = 0 := by
  induction n with
  | zero => rfl
  | succ n ih => rw [List.replicate_succ, num_cons, ih]; rfl
theorem num_byt (v n : Nat) : num (byt v n) = ((v % 256 ^ n : Nat) : Int) := by
  induction n with
  | zero => simp [byt, num, Nat.mod_one]
  | succ n ih =>
    rw [byt_succ, num_append, ih, byt_length, num_cons, num_nil, Nat.mod_pow_succ, Int.natCast_add, Int.natCast_mul, Int.natCast_pow]
    rfl
theorem byt_head (v n : Nat) : byt v (n + 1) = ((v % 256 : Nat) : Int) :: byt (v / 256) n := by
  induction n with
  | zero => simp [byt]
  | succ n ih =>
    rw [byt_succ, ih, byt_succ, List.cons_append, Nat.div_div_eq_div_mul, Nat.pow_succ, Nat.mul_comm (256 ^ n) 256]
theorem byt_num (l : List Int) (h : isBytes l) (v : Nat) (hv : (v : Int) = num l) : byt v l.length = l := by
  induction l generalizing v with
  | nil => simp [byt]
  | cons c l ih =>
    have hc := h c (by simp)
    have hl : isBytes l := fun x hx => h x (by simp [hx])
    have hb := num_bound l hl
    rw [num_cons] at hv
    rw [List.length_cons, byt_head, ih hl (v / 256) (by omega)]
    congr 1
    omega
theorem byt_mod (v n : Nat) : byt (v % 256 ^ n) n = byt v n := by
  have h := byt_num (byt v n) (byt_isBytes v n) (v % 256 ^ n) (num_byt v n).symm
  rwa [byt_length] at h
theorem byt_take (v n m : Nat) (h : m ≤ n) : (byt v n).take m = byt v m := by
  obtain ⟨d, rfl⟩ : ∃ d, n = m + d := ⟨n - m, by omega⟩
  induction d with
  | zero => rw [List.take_of_length_le (by rw [byt_length]; omega)]; rfl
  | succ d ih => rw [← Nat.add_assoc, byt_succ, List.take_append_of_le_length (by rw [byt_length]; omega), ih (by omega)]
theorem byt_drop (v n m : Nat) (h : m ≤ n) : (byt v n).drop m = byt (v / 256 ^ m) (n - m) := by
  obtain ⟨d, rfl⟩ : ∃ d, n = m + d := ⟨n - m, by omega⟩
  rw [Nat.add_sub_cancel_left]
  induction d with
  | zero => rw [List.drop_of_length_le (by rw [byt_length]; omega)]; rfl
  | succ d ih =>
    rw [← Nat.add_assoc, byt_succ, List.drop_append_of_le_length (by rw [byt_length]; omega), ih (by omega), byt_succ, Nat.div_div_eq_div_mul, Nat.pow_add]
theorem fld_byt (v : BitVec 64) (j n : Nat) (h : 8 * n ≤ 64) : byt (fld v (8 * j) (8 * n)).toNat n = byt (v.toNat / 256 ^ j) n := by
  rw [fld_toNat _ _ _ h, Nat.pow_mul, Nat.pow_mul]
  exact byt_mod _ _
theorem num_snoc (l : List Int) (i : Nat) (h : i < l.length) : num (l.take (i + 1)) = num (l.take i) + 256 ^ i * rd l i := by
  rw [List.take_succ_eq_append_getElem h, num_append, num_cons, num_nil, List.length_take, Nat.min_eq_left (by omega)]
  unfold rd
  simp [h]
theorem num_drop (l : List Int) (i : Nat) (h : i < l.length) : num (l.drop i) = rd l i + 256 * num (l.drop (i + 1)) := by
  rw [List.drop_eq_getElem_cons h, num_cons]
  unfold rd
  simp [h]
theorem rd_byte (l : List Int) (hb : isBytes l) (i : Nat) (h : i < l.length) : 0 ≤ rd l i ∧ rd l i < 256 := by
  unfold rd
  have := hb l[i] (List.getElem_mem h)
  simpa [h] using this
theorem pow_8 (n : Nat) (h : n ≤ 8) : (256 : Int) ^ n ≤ 18446744073709551616 := by
  have : 256 ^ n ≤ 256 ^ 8 := Nat.pow_le_pow_right (by decide) h
  have e : ((256 ^ n : Nat) : Int) = 256 ^ n := by simp
  omega
/-- A byte, put beside the ones below it. -/
theorem or_byte (a c : Nat) (i : Nat) (hi : i < 8) (ha : a < 256 ^ i) (hc : c < 256) :
    Go.bits .or .u64 (a : Int) (shl .u64 (IntKind.u64.wrap (c : Int)) (wrap64 (8 * (i : Int)))) = ((a + 256 ^ i * c : Nat) : Int) := by
  have e8 : (256 : Nat) ^ i = 2 ^ (8 * i) := by rw [Nat.pow_mul]
  have h1 : 2 ^ (8 * i) * 256 ≤ 2 ^ 64 := by
    rw [show (256 : Nat) = 2 ^ 8 from rfl, ← Nat.pow_add]; exact Nat.pow_le_pow_right (by decide) (by omega)
  have hm : 2 ^ (8 * i) * c ≤ 2 ^ (8 * i) * 255 := Nat.mul_le_mul_left _ (by omega)
  have eA : (a : Int) = U (BitVec.ofNat 64 a) := by
    unfold U; rw [BitVec.toNat_ofNat, Nat.mod_eq_of_lt (by omega)]
  have eC : (c : Int) = U (BitVec.ofNat 64 c) := by
    unfold U; rw [BitVec.toNat_ofNat, Nat.mod_eq_of_lt (by omega)]
  rw [eC, wrapUU, wrap_in (by omega) (by omega), shl_U, eA, or_U]
  unfold U
  rw [BitVec.toNat_or, BitVec.toNat_shiftLeft, BitVec.toNat_ofNat, BitVec.toNat_ofNat, Nat.mod_eq_of_lt (by omega), Nat.mod_eq_of_lt (a := c) (by omega),
    show (8 * (i : Int)).toNat = 8 * i by omega, Nat.shiftLeft_eq, Nat.mul_comm c, Nat.mod_eq_of_lt (by omega), Nat.or_comm]
  rw [← Nat.mul_comm c, ← Nat.shiftLeft_eq, ← Nat.shiftLeft_add_eq_or_of_lt (by omega), Nat.shiftLeft_eq, e8, Nat.mul_comm c]
  congr 1
  omega
end Go.Proofs.Ytldpmehcpiamlaa.By
