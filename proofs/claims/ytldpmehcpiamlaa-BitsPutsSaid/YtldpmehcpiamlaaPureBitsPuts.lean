/- BitsPuts, over words: two fields that don't lie over one another are put in any order; put twice, the last one is there. -/
import Derived.Test.YtldpmehcpiamlaaLBitsPuts
namespace Go.Proofs.Ytldpmehcpiamlaa.Pure
open Go.RowKit Go.Proofs.Ytldpmehcpiamlaa.PBitsPuts Go.Proofs.YtldpmehcpiamlaaW.PrintWords Go.Proofs.YtldpmehcpiamlaaW.PrintLast Go.Proofs.Ytldpmehcpiamlaa.Bv Go.Proofs.Ytldpmehcpiamlaa.Bw Go.Proofs.Ytldpmehcpiamlaa.LBitsPuts

theorem BitsPuts : caponierlaw01_BitsPuts.Pure := by
  intro a0 a1 a2 h0 h1 h2
  obtain ⟨v, rfl⟩ := ex_U h0
  obtain ⟨x, rfl⟩ := ex_U h1
  obtain ⟨y, rfl⟩ := ex_U h2
  refine ⟨12, ?_⟩
  unfold caponierlaw01_BitsPuts.f
  rw [awake_is (Nat.le_refl _)]
  simp only [Option.bind_some, if_true]
  rw [put_yes v x (by decide) (by decide) (by decide)]
  simp only [Option.bind_some]
  rw [put_yes _ y (by decide) (by decide) (by decide)]
  simp only [Option.bind_some]
  rw [put_yes v y (f := 30) (by decide) (by decide) (by decide)]
  simp only [Option.bind_some]
  rw [put_yes _ x (by decide) (by decide) (by decide)]
  simp only [Option.bind_some]
  rw [put_yes _ y (f := 8) (by decide) (by decide) (by decide)]
  simp only [Option.bind_some]
  rw [put_yes v y (f := 8) (by decide) (by decide) (by decide)]
  simp only [Option.bind_some]
  rw [put_yes v x (f := 0) (by decide) (by decide) (by decide)]
  simp only [Option.bind_some, if_true]
  rw [if_pos (by rw [U_inj]; exact pt_swap v x y _ _ _ _ (by decide) (by decide) (by decide)), if_pos (by rw [U_inj]; exact pt_again v x y _ _ (by decide))]
  rw [show (0 : Int).toNat = 0 from rfl, show (64 : Int).toNat = 64 from rfl, pt_all]
  simp
end Go.Proofs.Ytldpmehcpiamlaa.Pure
