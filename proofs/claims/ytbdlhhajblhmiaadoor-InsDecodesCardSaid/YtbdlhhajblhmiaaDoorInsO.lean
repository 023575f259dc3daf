/- The listed table, as the row's condition gives it, lies in memory as the contracts want it. -/
import Derived.Test.YtbdlhhajblhmiaaDoorRows
import Derived.Test.YtbdlhhajblhmiaaDoorInsA
import Derived.ProofKit
import Derived.LaidMore
import Derived.OpenShut
import Derived.Stop.Joined
import Derived.Deep.Strs
import Derived.ChangeSame
set_option linter.unusedVariables false
set_option linter.unusedSimpArgs false
namespace Go.Proofs.YtbdlhhajblhmiaaDoor.Ins
open Go.ChangeShapes Go.WideShapes Go.ChangeAt Go.WideMaps Go.WideElems Go.RowKit Go.Deep

def laid1 : List (String × DataW Unit) := [("caponier/ins.rows", Rows.laid_caponier_ins_rows)]
def rowD (i : Nat) : DataW Unit := .agg [.lit (.string (fm i).s.data.toList), .agg [.lit (.int .u64 (lo i)), .lit (.int .u64 (kd i)), .lit (.int .u64 (tp i))]]
theorem rows_are : Rows.laid_caponier_ins_rows = (.agg ((List.range 43).map rowD) : DataW Unit) := by kernel_rfl
theorem gRows : Tryd.prog.globalNamed "caponier/ins.rows" = some 0 := by kernel_rfl
theorem tRows : (Tryd.prog.globals[0]?).map (·.type) = some 43 := by kernel_rfl
theorem door_met (os : Os) (args : Array Value) : laidMetH Tryd.prog laid1 ((World.doorLaid Tryd.prog 100 os).forCall (fun _ _ => 0) ⟨#[], args, []⟩).memory :=
  laidMetH_of_parts3 (fuel := 8) (laidMet_of_run' 8 (by kernel_rfl) (by kernel_rfl)) (by kernel_rfl) (by kernel_rfl)
theorem head_of {cs : List Value} {n : Nat} {v : Value} (h : (cs.drop n).take 1 = [v]) : cs[n]? = some v := by
  have := congrArg (fun l : List Value => l[0]?) h
  simpa using this
theorem lt_of_cell {w : World} {a : Addr} {v : Value} (h : w.cell? a = some v) : a.block < w.heap.size := by
  unfold World.cell? at h
  by_cases g : a.block < w.heap.size
  · exact g
  · rw [Array.getElem?_eq_none (by omega)] at h
    simp at h
theorem of_laid {W : World} (h : laidMetH Tryd.prog laid1 W) : Laid W := by
  rw [MakeChecks.laidMetH_plain _ _ _ (by kernel_rfl)] at h
  obtain ⟨ps, ⟨g0, t0, cs0, f0, p0, q0, hg0, ht0, hv0, hd0, _, _⟩, _⟩ := h
  obtain rfl := Option.some.inj (gRows.symm.trans hg0)
  obtain rfl := Option.some.inj (tRows.symm.trans ht0)
  rw [rows_are] at hd0
  have c42 : Tryd.prog.cellsOf 42 = 4 := by kernel_rfl
  have c40 : Tryd.prog.cellsOf 40 = 3 := by kernel_rfl
  have c9 : Tryd.prog.cellsOf 9 = 1 := by kernel_rfl
  have c38 : Tryd.prog.cellsOf 38 = 1 := by kernel_rfl
  obtain ⟨xs, m, rfl, hx, hlen, hn, hel⟩ := DataW.trod_array Tryd.underlying43 hd0
  simp only [Prod.mk.injEq, DataW.agg.injEq] at hx
  have row : ∀ i, i < 43 → W.cell? ⟨0, i * 4, none⟩ = some (.string (fm i).s) ∧ W.cell? ⟨0, i * 4 + 1, none⟩ = some (.int .u64 (lo i)) ∧ W.cell? ⟨0, i * 4 + 2, none⟩ = some (.int .u64 (kd i)) ∧ W.cell? ⟨0, i * 4 + 3, none⟩ = some (.int .u64 (tp i)) := by
    intro i hi
    have e := hel i hi
    have hxi : xs[i]? = some (xs[i]'(by omega)) := List.getElem?_eq_getElem (by omega)
    rw [hxi, c42] at e
    have d := congrArg (fun l : List (DataW Unit) => l[i]?) hx.1
    simp only [List.getElem?_map, hxi, Option.map_some, List.getElem?_range hi] at d
    injection d with d
    obtain ⟨y0, y1, n1, hy, hl1, ha, hb⟩ := trod_struct2 Tryd.underlying42 e
    rw [hy] at d
    unfold rowD at d
    simp only [DataW.agg.injEq, List.cons.injEq, and_true] at d
    obtain ⟨s, hs, hs2, _⟩ := DataW.trod_string Tryd.underlying9 ha
    obtain ⟨z0, z1, z2, n2, hz, hl2, hc0, hc1, hc2⟩ := trod_struct3 Tryd.underlying40 hb
    obtain ⟨k0, hk0, hk0', _⟩ := DataW.trod_int Tryd.underlying38 hc0
    obtain ⟨k1, hk1, hk1', _⟩ := DataW.trod_int Tryd.underlying38 hc1
    obtain ⟨k2, hk2, hk2', _⟩ := DataW.trod_int Tryd.underlying38 hc2
    rw [hs2, hz] at d
    rw [hk0', hk1', hk2'] at d
    simp only [DataW.lit.injEq, Lit.string.injEq, DataW.agg.injEq, List.cons.injEq, Lit.int.injEq, true_and, and_true] at d
    obtain ⟨d1, d2, d3, d4⟩ := d
    subst d2 d3 d4
    have es : s = (fm i).s := by
      have := Array.toList_inj.1 d1
      exact ByteArray.ext this.symm
    subst es
    simp only [c9, c38, c40, List.drop_zero, List.take_take, List.drop_drop, List.drop_take] at hs hk0 hk1 hk2
    have g : ∀ j, W.cell? ⟨0, j, none⟩ = cs0.toList[j]? := fun j => by
      have := World.var?_cell hg0 hv0 j
      simpa using this
    refine ⟨?_, ?_, ?_, ?_⟩
    · rw [g]; exact head_of (by simpa using hs)
    · rw [g]; exact head_of (by simpa using hk0)
    · rw [g]; exact head_of (by simpa using hk1)
    · rw [g]; exact head_of (by simpa using hk2)
  have c0 := (row 0 (by decide)).1
  refine ⟨?_, fun op ho => (row op (by omega)).1, fun op ho => (row op (by omega)).2.1, fun op ho => (row op (by omega)).2.2.1, fun op ho => (row op (by omega)).2.2.2⟩
  exact lt_of_cell c0
end Go.Proofs.YtbdlhhajblhmiaaDoor.Ins
