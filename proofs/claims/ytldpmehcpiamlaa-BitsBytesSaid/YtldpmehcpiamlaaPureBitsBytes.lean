/- BitsBytes, over words and bytes: every word's lowest bytes, and the word that any bytes are, are what the document says; there and back they are the same (1000 bytes). -/
import Derived.Test.YtldpmehcpiamlaaLBitsBytes
namespace Go.Proofs.Ytldpmehcpiamlaa.Pure
open Go.RowKit Go.Proofs.Ytldpmehcpiamlaa.PBitsBytes Go.Proofs.YtldpmehcpiamlaaW.PrintWords Go.Proofs.YtldpmehcpiamlaaW.PrintLast Go.Proofs.Ytldpmehcpiamlaa.Bv Go.Proofs.Ytldpmehcpiamlaa.Bw Go.Proofs.Ytldpmehcpiamlaa.By Go.Proofs.Ytldpmehcpiamlaa.LBitsBytes

theorem BitsBytes : caponierlaw01_BitsBytes.Pure := by
  intro a0 n l h0 h1 hl hl2 hw
  obtain ⟨v, rfl⟩ := ex_U h0
  have hb : isBytes l := fun x hx => wf_u8 (hw x hx)
  by_cases hlong : (l.length : Int) > 1000
  · refine ⟨12, ?_⟩
    unfold caponierlaw01_BitsBytes.f
    rw [awake_is (by decide)]
    simp only [Option.bind_some, if_true]
    rw [if_pos hlong]
  refine ⟨1100, ?_⟩
  unfold caponierlaw01_BitsBytes.f
  rw [awake_is (by decide)]
  simp only [Option.bind_some, if_true]
  rw [if_neg hlong]
  obtain ⟨x, hx1, hx2, m, rfl, hm, _⟩ : ∃ x, bits_Bytes.f 1100 (U v) n = some x ∧ caponierref01_Bytes.f 1100 (U v) n = some x ∧ ∃ m, x = byt v.toNat m ∧ m ≤ 8 ∧ True := by
    by_cases hn : 0 ≤ n ∧ n ≤ 8
    · exact ⟨_, bytes_yes v hn.1 hn.2 (by decide), ref_bytes_yes v hn.1 hn.2 (by decide), n.toNat, rfl, by omega, trivial⟩
    · exact ⟨_, bytes_no _ hn (by decide), ref_bytes_no _ hn (by decide), 0, rfl, by omega, trivial⟩
  obtain ⟨w, ok, hw1, hw2, hk⟩ : ∃ w ok, bits_Word.f 1100 l = some (w, ok) ∧ caponierref01_Word.f 1100 l = some (w, ok) ∧ (ok = true → w = num l ∧ l.length ≤ 8) := by
    by_cases hn : l.length ≤ 8
    · exact ⟨_, _, word_yes l hn hb (by decide), ref_word_yes l hn hb (by decide), fun _ => ⟨rfl, hn⟩⟩
    · exact ⟨_, _, word_no l hn, ref_word_no l hn, fun h => by cases h⟩
  rw [hx1]
  simp only [Option.bind_some]
  rw [hw1]
  simp only [Option.bind_some]
  rw [hw2]
  simp only [Option.bind_some]
  rw [hx2]
  simp only [Option.bind_some]
  rw [same_self _ (by rw [byt_length]; omega) (by rw [byt_length]; omega)]
  simp only [Option.bind_some, if_true, bne_self_eq_false]
  show caponierlaw01_BitsBytes.j0 (1099 + 1) _ _ _ _ _ _ = _
  simp only [caponierlaw01_BitsBytes.j0]
  rw [if_neg (by simp), word_yes _ (by rw [byt_length]; omega) (byt_isBytes _ _) (by decide), byt_length, wrap_in (by omega) (by omega)]
  simp only [Option.bind_some]
  rw [field_yes v (Int.le_refl 0) (by omega) (by omega)]
  simp only [Option.bind_some, if_true]
  rw [if_pos (by
    rw [num_byt]
    unfold U
    rw [fld_toNat _ _ _ (by omega), show (8 * (m : Int)).toNat = 8 * m by omega, Int.toNat_zero, Nat.pow_zero, Nat.div_one, Nat.pow_mul])]
  cases ok with
  | false => rfl
  | true =>
    obtain ⟨rfl, hl8⟩ := hk rfl
    have hbd := num_bound l hb
    have h8 := pow_8 l.length hl8
    rw [if_pos rfl]
    obtain ⟨u, hu⟩ : ∃ u : BitVec 64, num l = U u := ⟨_, (U_of hbd.1 (by omega)).symm⟩
    rw [hu, bytes_yes u (by omega) (by omega) (by decide)]
    simp only [Option.bind_some, Int.toNat_natCast]
    rw [byt_num l hb u.toNat (by rw [hu]; rfl), same_self l (by omega) (by omega)]
    rfl
end Go.Proofs.Ytldpmehcpiamlaa.Pure
