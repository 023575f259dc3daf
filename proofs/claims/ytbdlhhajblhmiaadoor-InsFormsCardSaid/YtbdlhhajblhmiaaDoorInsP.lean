/- Plain laws of package ins: what may be an instruction; closed answers. -/
import Derived.Test.YtbdlhhajblhmiaaDoorInsN
set_option linter.unusedVariables false
set_option linter.unusedSimpArgs false
namespace Go.Proofs.YtbdlhhajblhmiaaDoor.Ins
open Go Go.RowKit Go.Proofs Go.Proofs.YtbdlhhajblhmiaaDoorW.PrintWords Go.Proofs.YtbdlhhajblhmiaaDoor.Bv Go.Proofs.YtbdlhhajblhmiaaDoor.Bw Go.Proofs.YtbdlhhajblhmiaaDoor.BL Go.Proofs.YtbdlhhajblhmiaaDoor.QEncode Go.Maps

theorem may_in {a0 a1 a2 a3 : Int} (z : BitVec 64) : mayO a0 a1 a2 a3 (S z) = some (mayF a0 a1 a2 a3 z) := by
  unfold mayO
  rw [ofS, if_pos rfl]
theorem enc_in {a0 a1 a2 a3 : Int} (z : BitVec 64) : encO a0 a1 a2 a3 (S z) = if mayF a0 a1 a2 a3 z = true then some (encV a0 a1 a2 a3 z, 0) else some (0, 1) := by
  unfold encO
  rw [ofS, if_pos rfl]
theorem zero_S : (0 : Int) = S 0#64 := rfl
theorem may_zero (op : Int) (h0 : 0 ≤ op) (h1 : op ≤ 42) : mayO op 0 0 0 0 = some true := by
  have g : ∀ n : Fin 43, mayF ((n.val : Nat) : Int) 0 0 0 0#64 = true := by decide +kernel
  have e := g ⟨op.toNat, by omega⟩
  have e2 : ((op.toNat : Nat) : Int) = op := by omega
  dsimp only at e
  rw [e2] at e
  rw [show mayO op 0 0 0 0 = mayO op 0 0 0 (S 0#64) from rfl, may_in, e]
theorem may_bad (op rd : Int) (h : 32 ≤ rd) : mayO op rd 0 0 0 = some false := by
  rw [show mayO op rd 0 0 0 = mayO op rd 0 0 (S 0#64) from rfl, may_in]
  have e : regB rd (fm op.toNat).d = false := by
    unfold regB
    rw [decide_eq_false]
    rintro (h | ⟨_, _, h⟩) <;> omega
  unfold mayF
  rw [e]; simp
theorem may_none (op a1 a2 a3 : Int) (h : ¬ (0 ≤ op ∧ op ≤ 42)) (z : BitVec 64) : mayF op a1 a2 a3 z = false := by
  unfold mayF
  rw [decide_eq_false h]; simp
theorem form_empty (op : Int) : (formF op).toList = ([] : List UInt8) ↔ ¬ (0 ≤ op ∧ op ≤ 42) := by
  unfold formF
  by_cases h : 0 ≤ op ∧ op ≤ 42
  · rw [if_pos h]
    have g : ∀ f : Fm, ¬ (f.s.toList = ([] : List UInt8)) := fun f => by cases f <;> decide +kernel
    exact ⟨fun e => absurd e (g _), fun e => absurd h e⟩
  · rw [if_neg h]
    exact ⟨fun _ => h, fun _ => by decide +kernel⟩
end Go.Proofs.YtbdlhhajblhmiaaDoor.Ins
