/- BitsSigns, over words: of any word signed by any count of bits, and whether any number fits, is what the document says; what fits is itself, signed. -/
import Derived.Test.YtldpmehcpiamlaaLBitsSigns
namespace Go.Proofs.Ytldpmehcpiamlaa.Pure
open Go.RowKit Go.Proofs.Ytldpmehcpiamlaa.PBitsSigns Go.Proofs.YtldpmehcpiamlaaW.PrintWords Go.Proofs.YtldpmehcpiamlaaW.PrintLast Go.Proofs.Ytldpmehcpiamlaa.Bv Go.Proofs.Ytldpmehcpiamlaa.Bw Go.Proofs.Ytldpmehcpiamlaa.LBitsSigns

theorem BitsSigns : caponierlaw01_BitsSigns.Pure := by
  intro a0 n h0 h1
  obtain ⟨v, rfl⟩ := ex_U h0
  refine ⟨68, ?_⟩
  unfold caponierlaw01_BitsSigns.f
  rw [awake_is (by decide)]
  simp only [Option.bind_some, if_true]
  rw [wrapSU]
  by_cases hn : 1 ≤ n ∧ n ≤ 64
  · obtain ⟨n1, n2⟩ := hn
    rw [sign_yes v n1 n2, ref_sign_yes v n1 n2 (by decide)]
    simp only [Option.bind_some, if_true]
    rw [fits_yes v n1 n2, ref_fits_yes v n1 n2 (by decide)]
    simp only [Option.bind_some, bne_self_eq_false]
    rw [if_neg (by simp), fitsU_yes v n1 n2, ref_fitsU_yes v n1 n2 (by decide)]
    simp only [Option.bind_some, bne_self_eq_false]
    show caponierlaw01_BitsSigns.j0 (67 + 1) _ _ _ _ = _
    simp only [caponierlaw01_BitsSigns.j0]
    rw [if_neg (by simp), if_neg (by omega), if_neg (by omega), fits_yes _ n1 n2]
    simp only [Option.bind_some]
    rw [if_pos (by simpa using sg_sg v n.toNat (by omega) (by omega)), wrapUS, sign_yes _ n1 n2]
    simp only [Option.bind_some]
    rw [if_pos (by rw [sg_sg v n.toNat (by omega) (by omega)]), fits_yes _ n1 n2]
    simp only [Option.bind_some]
    by_cases hf : sg v n.toNat = v
    · rw [if_pos (by simpa using hf), S_beq, decide_eq_true hf]
    · rw [if_neg (by simpa using hf)]
  · rw [sign_no _ hn, ref_sign_no _ hn (by decide)]
    simp only [Option.bind_some, if_true]
    rw [fits_no _ hn, ref_fits_no _ hn]
    simp only [Option.bind_some, bne_self_eq_false]
    rw [if_neg (by simp), fitsU_no _ hn, ref_fitsU_no _ hn (by decide)]
    simp only [Option.bind_some, bne_self_eq_false]
    show caponierlaw01_BitsSigns.j0 (67 + 1) _ _ _ _ = _
    simp only [caponierlaw01_BitsSigns.j0]
    rw [if_neg (by simp)]
    by_cases h1 : n < 1
    · rw [if_pos h1]
    · rw [if_neg h1, if_pos (by omega)]
end Go.Proofs.Ytldpmehcpiamlaa.Pure
