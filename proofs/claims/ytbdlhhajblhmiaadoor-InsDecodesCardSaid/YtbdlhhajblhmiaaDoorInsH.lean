/- long of package ins, walked. -/
import Derived.Test.YtbdlhhajblhmiaaDoorInsF
set_option linter.unusedVariables false
set_option linter.unusedSimpArgs false
namespace Go.Proofs.YtbdlhhajblhmiaaDoor.Ins
open Go Go.RowKit Go.Proofs Go.Proofs.YtbdlhhajblhmiaaDoorW.PrintWords Go.Proofs.YtbdlhhajblhmiaaDoor.Bv Go.Proofs.YtbdlhhajblhmiaaDoor.Bw Go.Proofs.YtbdlhhajblhmiaaDoor.BL Go.Proofs.YtbdlhhajblhmiaaDoor.QEncode Go.Maps

theorem law9 : Keyed Tryd.prog 9 := string_keyed Tryd.underlying9
theorem zero3 (w : World) : (zeroValue 3).run Tryd.prog w = .ok (.int .i64 0) w := by kernel_rfl
def Dl : DataW Unit := ((((((.map [] : DataW Unit).put (.string [73] : Lit) (d64 12)).put (.string [83] : Lit) (d64 12)).put (.string [66] : Lit) (d64 13)).put (.string [85] : Lit) (d64 32)).put (.string [74] : Lit) (d64 21))
def longN : Fm → Int
  | .I => 12 | .S => 12 | .B => 13 | .U => 32 | .J => 21 | _ => 0
theorem key9 (c : UInt8) : keyOf Tryd.prog 9 (.string ⟨#[c]⟩) = some (.string [c]) := WideMaps.keyOf_string_mk Tryd.underlying9 (show 1 ≤ maxLen by decide)
theorem Dl_look (f : Fm) : Dl.atKey (.string f.s.data.toList) (d64 0) = d64 (longN f) := by
  cases f <;> kernel_rfl
set_option maxHeartbeats 4000000 in
set_option maxRecDepth 100000 in
theorem long_c (f : Fm) (w : World) :
    Calls Tryd.prog 33 #[.string f.s] w fun e w' => e = .returned (.int .i64 (longN f)) ∧ Below w.heap.size w w' := by
  have hmm := @run_makeMap Tryd.prog
  have hown : (w.alloc (.map #[] 0)).ownsMap Tryd.prog 9 (plainElem Tryd.prog 3) w.heap.size 0 (.map [] : DataW Unit) := World.ownsMap_made _ _ _ _
  have hb : Below w.heap.size w (w.alloc (.map #[] 0)) := (Below.refl _ _).alloc (Nat.le_refl _) _
  obtain ⟨w1, r1, hown1, hg1⟩ := hown.update (key := .string ⟨#[73]⟩) (val := .int .i64 12) law9 Tryd.underlying71 (by decide) (key9 73) (plainElem_int Tryd.underlying3 (by decide))
  have hb1 := hb.grown hg1 hb.size (fun j hj => by cases hj; exact Nat.le_refl _)
  clear hown hb hg1
  have hown := hown1
  have hb := hb1
  clear hown1 hb1
  obtain ⟨w2, r2, hown2, hg2⟩ := hown.update (key := .string ⟨#[83]⟩) (val := .int .i64 12) law9 Tryd.underlying71 (by decide) (key9 83) (plainElem_int Tryd.underlying3 (by decide))
  have hb2 := hb.grown hg2 hb.size (fun j hj => by cases hj; exact Nat.le_refl _)
  clear hown hb hg2
  have hown := hown2
  have hb := hb2
  clear hown2 hb2
  obtain ⟨w3, r3, hown3, hg3⟩ := hown.update (key := .string ⟨#[66]⟩) (val := .int .i64 13) law9 Tryd.underlying71 (by decide) (key9 66) (plainElem_int Tryd.underlying3 (by decide))
  have hb3 := hb.grown hg3 hb.size (fun j hj => by cases hj; exact Nat.le_refl _)
  clear hown hb hg3
  have hown := hown3
  have hb := hb3
  clear hown3 hb3
  obtain ⟨w4, r4, hown4, hg4⟩ := hown.update (key := .string ⟨#[85]⟩) (val := .int .i64 32) law9 Tryd.underlying71 (by decide) (key9 85) (plainElem_int Tryd.underlying3 (by decide))
  have hb4 := hb.grown hg4 hb.size (fun j hj => by cases hj; exact Nat.le_refl _)
  clear hown hb hg4
  have hown := hown4
  have hb := hb4
  clear hown4 hb4
  obtain ⟨w5, r5, hown5, hg5⟩ := hown.update (key := .string ⟨#[74]⟩) (val := .int .i64 21) law9 Tryd.underlying71 (by decide) (key9 74) (plainElem_int Tryd.underlying3 (by decide))
  have hb5 := hb.grown hg5 hb.size (fun j hj => by cases hj; exact Nat.le_refl _)
  clear hown hb hg5
  have hown := hown5
  have hb := hb5
  clear hown5 hb5
  obtain ⟨c', hrun, hat, hwc⟩ := hown.lookup_int law9 Tryd.underlying71 Tryd.underlying3 (zero3 _) (key := .string f.s) (kl := .string f.s.data.toList) (WideMaps.keyOf_string_mk Tryd.underlying9 (by cases f <;> decide))
  obtain rfl : c' = longN f := by
    have g := hat.symm.trans (Dl_look f)
    injection g with g
    injection g
  clear hat hwc hown
  go_enter Tryd.func33, Tryd.ntmps33
  go_wp2
  go_ret
  exact ⟨rfl, hb⟩
end Go.Proofs.YtbdlhhajblhmiaaDoor.Ins
