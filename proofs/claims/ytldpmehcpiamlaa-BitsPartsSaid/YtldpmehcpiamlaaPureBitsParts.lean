/- BitsParts, over words: of any word and field the field, and the word with another one there, are what the document says, or there is none; what is put is the field, and all others stay. -/
import Derived.Test.YtldpmehcpiamlaaLBitsParts
namespace Go.Proofs.Ytldpmehcpiamlaa.Pure
open Go.RowKit Go.Proofs.Ytldpmehcpiamlaa.PBitsParts Go.Proofs.YtldpmehcpiamlaaW.PrintWords Go.Proofs.YtldpmehcpiamlaaW.PrintLast Go.Proofs.Ytldpmehcpiamlaa.Bv Go.Proofs.Ytldpmehcpiamlaa.Bw Go.Proofs.Ytldpmehcpiamlaa.LBitsParts

theorem BitsParts (a0 f n a2 : Int) (h0 : (Lit.int .u64 a0).wf = true) (h2 : (Lit.int .u64 a2).wf = true) : ∃ k, caponierlaw01_BitsParts.f k a0 f n a2 = some true := by
  obtain ⟨v, rfl⟩ := ex_U h0
  obtain ⟨x, rfl⟩ := ex_U h2
  refine ⟨68, ?_⟩
  unfold caponierlaw01_BitsParts.f
  rw [awake_is (by decide)]
  simp only [Option.bind_some, if_true]
  by_cases h : 0 ≤ f ∧ 0 ≤ n ∧ f + n ≤ 64
  · obtain ⟨hf, hn, hs⟩ := h
    rw [field_yes v hf hn hs]
    simp only [Option.bind_some]
    rw [ref_field_yes v hf hn hs (by decide)]
    simp only [Option.bind_some]
    rw [put_yes v x hf hn hs]
    simp only [Option.bind_some]
    rw [ref_put_yes v x hf hn hs (by decide)]
    simp only [Option.bind_some, if_true, bne_self_eq_false]
    rw [if_neg (by simp)]
    show caponierlaw01_BitsParts.j0 (67 + 1) _ _ _ _ _ _ _ _ = _
    simp only [caponierlaw01_BitsParts.j0]
    rw [if_neg (by simp), field_yes _ hf hn hs]
    simp only [Option.bind_some, if_true]
    rw [field_yes _ (Int.le_refl 0) hn (by omega)]
    simp only [Option.bind_some]
    rw [put_yes _ _ hf hn hs]
    simp only [Option.bind_some]
    rw [fld_pt v _ _ x (by omega), Int.toNat_zero, if_pos rfl, pt_fld v _ _ x (by omega)]
    simp
  · rw [field_no _ h]
    simp only [Option.bind_some]
    rw [ref_field_no _ h]
    simp only [Option.bind_some]
    rw [put_no _ _ h]
    simp only [Option.bind_some]
    rw [ref_put_no _ _ h]
    simp only [Option.bind_some, if_true, bne_self_eq_false]
    rw [if_neg (by simp)]
    show caponierlaw01_BitsParts.j0 (67 + 1) _ _ _ _ _ _ _ _ = _
    simp only [caponierlaw01_BitsParts.j0]
    rw [if_neg (by simp), if_neg (by simp), if_pos trivial]
    rfl
end Go.Proofs.Ytldpmehcpiamlaa.Pure
