/- BitsRows, over words and bytes: bytes of a word, cut anywhere, are the bytes of its fields; as many more bytes 0 change no number. -/
import Derived.Test.YtldpmehcpiamlaaLBitsRows
namespace Go.Proofs.Ytldpmehcpiamlaa.Pure
open Go.RowKit Go.Proofs.Ytldpmehcpiamlaa.PBitsRows Go.Proofs.YtldpmehcpiamlaaW.PrintWords Go.Proofs.YtldpmehcpiamlaaW.PrintLast Go.Proofs.Ytldpmehcpiamlaa.Bv Go.Proofs.Ytldpmehcpiamlaa.Bw Go.Proofs.Ytldpmehcpiamlaa.By Go.Proofs.Ytldpmehcpiamlaa.LBitsRows

theorem BitsRows : caponierlaw01_BitsRows.Pure := by
  intro a0 a1 a2 h0 h1 h2
  obtain ⟨v, rfl⟩ := ex_U h0
  have b1 := wf_u8 h1
  have b2 := wf_u8 h2
  refine ⟨20, ?_⟩
  unfold caponierlaw01_BitsRows.f
  rw [awake_is (by decide)]
  simp only [Option.bind_some, if_true]
  obtain ⟨m, hm⟩ : ∃ m : Nat, Int.tmod (wrap64 a1) 9 = (m : Int) := by
    refine ⟨(a1 % 9).toNat, ?_⟩
    rw [wrap_in (by omega) (by omega), Int.tmod_eq_emod_of_nonneg (by omega)]; omega
  have hm1 : m ≤ 8 := by
    have : (m : Int) ≤ 8 := by
      rw [← hm, wrap_in (by omega) (by omega), Int.tmod_eq_emod_of_nonneg (by omega)]; omega
    omega
  rw [hm, wrap_in (n := (m : Int) + 1) (by omega) (by omega), if_neg (by omega), bytes_yes v (by omega) (by omega) (by decide)]
  simp only [Option.bind_some, Int.toNat_natCast]
  obtain ⟨j, hj⟩ : ∃ j : Nat, Int.tmod (wrap64 a2) ((m : Int) + 1) = (j : Int) := by
    refine ⟨(a2 % ((m : Int) + 1)).toNat, ?_⟩
    have g' := Int.emod_nonneg a2 (show (m : Int) + 1 ≠ 0 by omega)
    rw [wrap_in (by omega) (by omega), Int.tmod_eq_emod_of_nonneg (by omega)]; omega
  have hj1 : j ≤ m := by
    have : (j : Int) ≤ m := by
      have g := Int.emod_lt_of_pos a2 (show (0 : Int) < (m : Int) + 1 by omega)
      rw [← hj, wrap_in (by omega) (by omega), Int.tmod_eq_emod_of_nonneg (by omega)]; omega
    omega
  rw [hj, byt_length, if_pos rfl, wrap_in (n := 8 * (j : Int)) (by omega) (by omega), wrap_in (n := (m : Int) - j) (by omega) (by omega), wrap_in (n := 8 * ((m : Int) - j)) (by omega) (by omega),
    wrap_in (n := 8 - (m : Int)) (by omega) (by omega)]
  rw [field_yes v (by omega) (by omega) (by omega)]
  simp only [Option.bind_some]
  rw [word_yes _ (by rw [byt_length]; omega) (byt_isBytes _ _) (by decide)]
  simp only [Option.bind_some, List.nil_append, List.length_nil]
  rw [if_pos (by omega), if_pos (by omega), byt_length, if_pos (by omega)]
  have hz : isBytes (byt v.toNat m ++ List.replicate (8 - (m : Int)).toNat 0) := by
    intro x hx
    rcases List.mem_append.1 hx with hx | hx
    · exact byt_isBytes _ _ x hx
    · rw [List.mem_replicate] at hx; omega
  rw [word_yes _ (by rw [List.length_append, byt_length, List.length_replicate]; omega) hz (by decide)]
  simp only [Option.bind_some]
  rw [if_pos (by omega), if_pos (by omega), bytes_yes v (by omega) (by omega) (by decide)]
  simp only [Option.bind_some, Int.toNat_natCast]
  rw [byt_take _ _ _ hj1, same_self _ (by rw [byt_length]; omega) (by rw [byt_length]; omega)]
  simp only [Option.bind_some, if_true]
  rw [bytes_yes _ (by omega) (by omega) (by decide)]
  simp only [Option.bind_some]
  rw [byt_drop _ _ _ hj1, show (8 * (j : Int)).toNat = 8 * j by omega, show (8 * ((m : Int) - j)).toNat = 8 * (m - j) by omega, show ((m : Int) - j).toNat = m - j by omega,
    fld_byt v j (m - j) (by omega), same_self _ (by rw [byt_length]; omega) (by rw [byt_length]; omega)]
  simp only [Option.bind_some, if_true]
  rw [num_append, num_zeros]
  simp
end Go.Proofs.Ytldpmehcpiamlaa.Pure
