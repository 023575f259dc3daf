/- What Form and imm of package ins come to, where the package's table lies in memory as its text lays it: contracts, walked. -/
import Derived.Test.YtbdlhhajblhmiaaDoorBL
import Derived.WalkKit
import Derived.Outline
import Derived.WalkLawsBesides
import Derived.WalkSpells
import Derived.Deep.QuietTactic
import Derived.BigQuiet
set_option linter.unusedVariables false
set_option linter.unusedSimpArgs false
namespace Go.Proofs.YtbdlhhajblhmiaaDoor.Ins
open Go Go.RowKit Go.Proofs Go.Proofs.YtbdlhhajblhmiaaDoorW.PrintWords Go.Proofs.YtbdlhhajblhmiaaDoor.Bv Go.Proofs.YtbdlhhajblhmiaaDoor.Bw Go.Proofs.YtbdlhhajblhmiaaDoor.BL Go.Proofs.YtbdlhhajblhmiaaDoor.QEncode

/-! ### 1. The table -/
inductive Fm where | R | I | S | B | U | J | E
deriving DecidableEq
def Fm.s : Fm → ByteArray
  | .R => ⟨#[82]⟩ | .I => ⟨#[73]⟩ | .S => ⟨#[83]⟩ | .B => ⟨#[66]⟩ | .U => ⟨#[85]⟩ | .J => ⟨#[74]⟩ | .E => ⟨#[69]⟩
/-- An operation's form. -/
def fm (op : Nat) : Fm :=
  if op ≤ 15 then .R else if op ≤ 28 then .I else if op ≤ 31 then .S else if op ≤ 37 then .B else if op ≤ 39 then .U else if op = 40 then .J else if op = 41 then .I else .E
/-- Its lowest bits. -/
def lo (op : Nat) : Nat :=
  if op ≤ 15 then 51 else if op ≤ 24 then 19 else if op ≤ 28 then 3 else if op ≤ 31 then 35 else if op ≤ 37 then 99 else if op = 38 then 55 else if op = 39 then 23 else if op = 40 then 111 else if op = 41 then 103 else 115
/-- Its kind. -/
def kd (op : Nat) : Nat := [0, 0, 1, 2, 3, 4, 5, 5, 6, 7, 0, 3, 4, 5, 6, 7, 0, 2, 3, 4, 6, 7, 1, 5, 5, 0, 4, 2, 3, 0, 2, 3, 0, 1, 4, 5, 6, 7, 0, 0, 0, 0, 0].getD op 0
/-- What stands above. -/
def tp (op : Nat) : Nat := if op = 1 then 32 else if op = 7 then 32 else if op = 24 then 16 else if 10 ≤ op ∧ op ≤ 15 then 1 else 0
/-- The table lies in memory. -/
structure Laid (w : World) : Prop where
  size : 0 < w.heap.size
  form : ∀ op : Nat, op ≤ 42 → w.cell? ⟨0, op * 4, none⟩ = some (.string (fm op).s)
  low : ∀ op : Nat, op ≤ 42 → w.cell? ⟨0, op * 4 + 1, none⟩ = some (.int .u64 (lo op))
  kind : ∀ op : Nat, op ≤ 42 → w.cell? ⟨0, op * 4 + 2, none⟩ = some (.int .u64 (kd op))
  top : ∀ op : Nat, op ≤ 42 → w.cell? ⟨0, op * 4 + 3, none⟩ = some (.int .u64 (tp op))
theorem Laid.below {w w' : World} (h : Laid w) (hb : Below w.heap.size w w') : Laid w' where
  size := Nat.lt_of_lt_of_le h.size hb.size
  form op ho := (hb.cell (p := ⟨0, op * 4, none⟩) h.size).trans (h.form op ho)
  low op ho := (hb.cell (p := ⟨0, op * 4 + 1, none⟩) h.size).trans (h.low op ho)
  kind op ho := (hb.cell (p := ⟨0, op * 4 + 2, none⟩) h.size).trans (h.kind op ho)
  top op ho := (hb.cell (p := ⟨0, op * 4 + 3, none⟩) h.size).trans (h.top op ho)

/-! ### 2. Form -/
theorem form_at (op : Int) (h0 : 0 ≤ op) (h1 : op ≤ 42) (f : ByteArray) (w : World) (hc : w.cell? ⟨0, op.toNat * 4, none⟩ = some (.string f)) :
    Calls Tryd.prog 14 #[.int .i64 op] w fun e w' => e = .returned (.string f) ∧ w' = w := by
  go_enter Tryd.func14, Tryd.ntmps14
  go_wp2
  go_ret
  exact ⟨rfl, rfl⟩
theorem form_no (op : Int) (h : ¬ (0 ≤ op ∧ op ≤ 42)) (w : World) :
    Calls Tryd.prog 14 #[.int .i64 op] w fun e w' => e = .returned (.string ⟨#[]⟩) ∧ w' = w := by
  by_cases h0 : op < 0
  · clear h
    go_enter Tryd.func14, Tryd.ntmps14
    go_wp2
    go_ret
    exact ⟨rfl, rfl⟩
  · have h1 : 42 < op := by omega
    clear h
    go_enter Tryd.func14, Tryd.ntmps14
    go_wp2
    go_ret
    exact ⟨rfl, rfl⟩
/-- What Form tells. -/
def formF (op : Int) : ByteArray := if 0 ≤ op ∧ op ≤ 42 then (fm op.toNat).s else ⟨#[]⟩
theorem form_any (op : Int) (w : World) (L : Laid w) : Calls Tryd.prog 14 #[.int .i64 op] w fun e w' => e = .returned (.string (formF op)) ∧ w' = w := by
  unfold formF
  by_cases h : 0 ≤ op ∧ op ≤ 42
  · rw [if_pos h]
    exact form_at op h.1 h.2 _ w (L.form _ (by omega))
  · rw [if_neg h]
    exact form_no op h w
end Go.Proofs.YtbdlhhajblhmiaaDoor.Ins
