-- Written by a program of this session (handprint.py) out of the translation: Go functions as Lean functions, and that the Go code comes to their answers; the row of the law.
import Derived.Test.YtbdlhhajblhmiaaDoorQInsDecodesx0
import Derived.Test.YtbdlhhajblhmiaaDoorQInsDecodesx2
import Derived.Test.YtbdlhhajblhmiaaDoorQInsDecodesx3
import Derived.Test.YtbdlhhajblhmiaaDoorQInsDecodesx4
namespace Go.Proofs.YtbdlhhajblhmiaaDoor.QInsDecodes
open Go.RowKit Go.Proofs.YtbdlhhajblhmiaaDoorW.PrintWords Go.Proofs.YtbdlhhajblhmiaaDoorW.PrintLast Go.Proofs.YtbdlhhajblhmiaaDoorW.PrintMore
attribute [local go_sem] max2_int min2_int max_two min_two max_three min_three max_four min_four   -- for this text's walks alone
set_option linter.unusedVariables false
set_option linter.unusedSimpArgs false

/-! ### caponierref02_Encode: function 11 -/
mutual
def caponierref02_Encode.j0 : Nat → ByteArray → Int → Bool → Int → Int → Int → Int → Int → Option (Int × Int)
 | 0, _, _, _, _, _, _, _, _ => none
 | k + 1, x4, x5, x39, xb0, xb1, xb2, xb3, xb4 => if x39 = true then ((caponierref02_Kind.f xb0).bind fun t138 => (caponierref02_Encode.j1 k x4 (IntKind.u64.wrap (x5 + (IntKind.u64.wrap (t138 * 4096)))) xb0 xb1 xb2 xb3 xb4)) else (caponierref02_Encode.j1 k x4 x5 xb0 xb1 xb2 xb3 xb4)
def caponierref02_Encode.j1 : Nat → ByteArray → Int → Int → Int → Int → Int → Int → Option (Int × Int)
 | 0, _, _, _, _, _, _, _ => none
 | k + 1, x4, x5, xb0, xb1, xb2, xb3, xb4 => if x4.toList = ([82] : List UInt8) then ((caponierref02_Top.f k xb0).bind fun t139 => (some ((IntKind.u64.wrap (x5 + (IntKind.u64.wrap (t139 * 33554432)))) % 4294967296, 0))) else (if x4.toList = ([73] : List UInt8) then ((caponierref02_bit.f k xb4 0 12 20).bind fun t140 => ((caponierref02_Shift.f xb0).bind fun t141 => (if t141 = true then ((caponierref02_Top.f k xb0).bind fun t142 => (some ((IntKind.u64.wrap ((IntKind.u64.wrap (x5 + t140)) + (IntKind.u64.wrap (t142 * 33554432)))) % 4294967296, 0))) else (some ((IntKind.u64.wrap (x5 + t140)) % 4294967296, 0))))) else (if x4.toList = ([83] : List UInt8) then ((caponierref02_bit.f k xb4 0 5 7).bind fun t143 => ((caponierref02_bit.f k xb4 5 7 25).bind fun t144 => (some ((IntKind.u64.wrap ((IntKind.u64.wrap (x5 + t143)) + t144)) % 4294967296, 0)))) else (if x4.toList = ([66] : List UInt8) then ((caponierref02_bit.f k xb4 1 4 8).bind fun t145 => ((caponierref02_bit.f k xb4 5 6 25).bind fun t146 => ((caponierref02_bit.f k xb4 11 1 7).bind fun t147 => ((caponierref02_bit.f k xb4 12 1 31).bind fun t148 => (some ((IntKind.u64.wrap ((IntKind.u64.wrap ((IntKind.u64.wrap ((IntKind.u64.wrap (x5 + t145)) + t146)) + t147)) + t148)) % 4294967296, 0)))))) else (if x4.toList = ([85] : List UInt8) then ((caponierref02_bit.f k xb4 12 20 12).bind fun t149 => (some ((IntKind.u64.wrap (x5 + t149)) % 4294967296, 0))) else (if x4.toList = ([74] : List UInt8) then ((caponierref02_bit.f k xb4 1 10 21).bind fun t150 => ((caponierref02_bit.f k xb4 11 1 20).bind fun t151 => ((caponierref02_bit.f k xb4 12 8 12).bind fun t152 => ((caponierref02_bit.f k xb4 20 1 31).bind fun t153 => (some ((IntKind.u64.wrap ((IntKind.u64.wrap ((IntKind.u64.wrap ((IntKind.u64.wrap (x5 + t150)) + t151)) + t152)) + t153)) % 4294967296, 0)))))) else (some ((x5) % 4294967296, 0)))))))
end
def caponierref02_Encode.f (k : Nat) (a0_0 : Int) (a0_1 : Int) (a0_2 : Int) (a0_3 : Int) (a0_4 : Int) : Option (Int × Int) := (caponierref02_May.f k a0_0 a0_1 a0_2 a0_3 a0_4).bind fun t135 => (if t135 = true then (if a0_0 = 42 then (some (1048691, 0)) else ((caponierref02_Form.f k a0_0).bind fun t136 => ((caponierref02_low.f a0_0).bind fun t137 => (if t136.toList = ([85] : List UInt8) then (caponierref02_Encode.j0 k t136 (IntKind.u64.wrap ((IntKind.u64.wrap ((IntKind.u64.wrap (t137 + (IntKind.u64.wrap ((IntKind.u64.wrap (a0_1)) * 128)))) + (IntKind.u64.wrap ((IntKind.u64.wrap (a0_2)) * 32768)))) + (IntKind.u64.wrap ((IntKind.u64.wrap (a0_3)) * 1048576)))) false a0_0 a0_1 a0_2 a0_3 a0_4) else (caponierref02_Encode.j0 k t136 (IntKind.u64.wrap ((IntKind.u64.wrap ((IntKind.u64.wrap (t137 + (IntKind.u64.wrap ((IntKind.u64.wrap (a0_1)) * 128)))) + (IntKind.u64.wrap ((IntKind.u64.wrap (a0_2)) * 32768)))) + (IntKind.u64.wrap ((IntKind.u64.wrap (a0_3)) * 1048576)))) (t136.toList != ([74] : List UInt8)) a0_0 a0_1 a0_2 a0_3 a0_4))))) else (some (0, 1)))
theorem caponierref02_Encode.mono_l : ∀ k, (∀ y0 y1 y2 y3 y4 y5 y6 y7, LeO (caponierref02_Encode.j0 k y0 y1 y2 y3 y4 y5 y6 y7) (caponierref02_Encode.j0 (k + 1) y0 y1 y2 y3 y4 y5 y6 y7)) ∧ (∀ y0 y1 y2 y3 y4 y5 y6, LeO (caponierref02_Encode.j1 k y0 y1 y2 y3 y4 y5 y6) (caponierref02_Encode.j1 (k + 1) y0 y1 y2 y3 y4 y5 y6))
 | 0 => ⟨fun _ _ _ _ _ _ _ _ r h => by simp [caponierref02_Encode.j0] at h, fun _ _ _ _ _ _ _ r h => by simp [caponierref02_Encode.j1] at h⟩
 | k + 1 => by
  obtain ⟨ih0, ih1⟩ := caponierref02_Encode.mono_l k
  refine ⟨?_, ?_⟩
  ·intro y0 y1 y2 y3 y4 y5 y6 y7
   unfold caponierref02_Encode.j0
   repeat' first
   | (with_reducible exact ih0 _ _ _ _ _ _ _ _)
   | (with_reducible exact ih1 _ _ _ _ _ _ _)
   | (with_reducible exact caponierref02_Form.mono _ _)
   | (with_reducible exact caponierref02_May.mono _ _ _ _ _ _)
   | (with_reducible exact caponierref02_Top.mono _ _)
   | (with_reducible exact caponierref02_bit.mono _ _ _ _ _)
   | (with_reducible exact LeO.refl _)
   | (with_reducible exact LeO.none _)
   | (with_reducible refine LeO.ite ?_ ?_)
   | (with_reducible refine LeO.bind ?_ (fun _ => ?_))
   | exact ih0 _ _ _ _ _ _ _ _
   | exact ih1 _ _ _ _ _ _ _
   | exact caponierref02_Form.mono _ _
   | exact caponierref02_May.mono _ _ _ _ _ _
   | exact caponierref02_Top.mono _ _
   | exact caponierref02_bit.mono _ _ _ _ _
   | exact LeO.none _
   | refine LeO.ite ?_ ?_
   | refine LeO.bind ?_ (fun _ => ?_)
  ·intro y0 y1 y2 y3 y4 y5 y6
   unfold caponierref02_Encode.j1
   repeat' first
   | (with_reducible exact ih0 _ _ _ _ _ _ _ _)
   | (with_reducible exact ih1 _ _ _ _ _ _ _)
   | (with_reducible exact caponierref02_Form.mono _ _)
   | (with_reducible exact caponierref02_May.mono _ _ _ _ _ _)
   | (with_reducible exact caponierref02_Top.mono _ _)
   | (with_reducible exact caponierref02_bit.mono _ _ _ _ _)
   | (with_reducible exact LeO.refl _)
   | (with_reducible exact LeO.none _)
   | (with_reducible refine LeO.ite ?_ ?_)
   | (with_reducible refine LeO.bind ?_ (fun _ => ?_))
   | exact ih0 _ _ _ _ _ _ _ _
   | exact ih1 _ _ _ _ _ _ _
   | exact caponierref02_Form.mono _ _
   | exact caponierref02_May.mono _ _ _ _ _ _
   | exact caponierref02_Top.mono _ _
   | exact caponierref02_bit.mono _ _ _ _ _
   | exact LeO.none _
   | refine LeO.ite ?_ ?_
   | refine LeO.bind ?_ (fun _ => ?_)
theorem caponierref02_Encode.mono : ∀ a0 a1 a2 a3 a4 k, LeO (caponierref02_Encode.f k a0 a1 a2 a3 a4) (caponierref02_Encode.f (k + 1) a0 a1 a2 a3 a4) := by
 intro a0 a1 a2 a3 a4 k
 obtain ⟨ih0, ih1⟩ := caponierref02_Encode.mono_l k
 unfold caponierref02_Encode.f
 repeat' first
   | (with_reducible exact ih0 _ _ _ _ _ _ _ _)
   | (with_reducible exact ih1 _ _ _ _ _ _ _)
   | (with_reducible exact caponierref02_Form.mono _ _)
   | (with_reducible exact caponierref02_May.mono _ _ _ _ _ _)
   | (with_reducible exact caponierref02_Top.mono _ _)
   | (with_reducible exact caponierref02_bit.mono _ _ _ _ _)
   | (with_reducible exact LeO.refl _)
   | (with_reducible exact LeO.none _)
   | (with_reducible refine LeO.ite ?_ ?_)
   | (with_reducible refine LeO.bind ?_ (fun _ => ?_))
   | exact ih0 _ _ _ _ _ _ _ _
   | exact ih1 _ _ _ _ _ _ _
   | exact caponierref02_Form.mono _ _
   | exact caponierref02_May.mono _ _ _ _ _ _
   | exact caponierref02_Top.mono _ _
   | exact caponierref02_bit.mono _ _ _ _ _
   | exact LeO.none _
   | refine LeO.ite ?_ ?_
   | refine LeO.bind ?_ (fun _ => ?_)
def caponierref02_Encode.T6 : Bool × List (List Nat × List Nat) := (true, [([], []), ([0], [0]), ([1], [1]), ([], []), ([3], [3]), ([4], [4]), ([5], [5]), ([2, 6], [2, 6]), ([], []), ([8], [8]), ([9], [9]), ([10], [10]), ([7, 11], [7, 11]), ([], []), ([13], [13]), ([14], [14]), ([15], [15]), ([12, 16], [12, 16]), ([17, 2, 0, 1, 2, 3, 4, 5, 6, 7, 8, 9, 10, 11, 12, 13, 14, 15, 16, 17], [17])])
def caponierref02_Encode.B6 : List Nat := [0, 1, 3, 0, 8, 24, 56, 127, 0, 256, 768, 1792, 4095, 0, 8192, 24576, 57344, 131071, 262143]
theorem caponierref02_Encode.tab6 : rtab .any (opsOf Tryd.f11 6) = caponierref02_Encode.T6 := by kernel_rfl
theorem caponierref02_Encode.bits6 : waitsOk caponierref02_Encode.T6.2 caponierref02_Encode.B6 = true := by kernel_rfl
set_option maxHeartbeats 8000000 in
set_option maxRecDepth 100000 in
theorem caponierref02_Encode.calls (k : Nat) (a0_0 : Int) (a0_1 : Int) (a0_2 : Int) (a0_3 : Int) (a0_4 : Int) (r1 : Int) (r2 : Int) (w : World) (h : caponierref02_Encode.f k a0_0 a0_1 a0_2 a0_3 a0_4 = some (r1, r2)) :
  Calls Tryd.prog 11 #[.agg #[.int .i64 a0_0, .int .i64 a0_1, .int .i64 a0_2, .int .i64 a0_3, .int .i64 a0_4]] w fun e w' => e = .returned (.tuple #[.int .u32 r1, .int .i64 r2]) ∧ Below w.heap.size w w' := by
 have hu23 := Tryd.underlying23
 have HB := Aside0.mk (Below.refl w.heap.size w)
 have H : ((caponierref02_May.f k a0_0 a0_1 a0_2 a0_3 a0_4).bind fun t135 => (if t135 = true then (if a0_0 = 42 then (some (1048691, 0)) else ((caponierref02_Form.f k a0_0).bind fun t136 => ((caponierref02_low.f a0_0).bind fun t137 => (if t136.toList = ([85] : List UInt8) then (caponierref02_Encode.j0 k t136 (IntKind.u64.wrap ((IntKind.u64.wrap ((IntKind.u64.wrap (t137 + (IntKind.u64.wrap ((IntKind.u64.wrap (a0_1)) * 128)))) + (IntKind.u64.wrap ((IntKind.u64.wrap (a0_2)) * 32768)))) + (IntKind.u64.wrap ((IntKind.u64.wrap (a0_3)) * 1048576)))) false a0_0 a0_1 a0_2 a0_3 a0_4) else (caponierref02_Encode.j0 k t136 (IntKind.u64.wrap ((IntKind.u64.wrap ((IntKind.u64.wrap (t137 + (IntKind.u64.wrap ((IntKind.u64.wrap (a0_1)) * 128)))) + (IntKind.u64.wrap ((IntKind.u64.wrap (a0_2)) * 32768)))) + (IntKind.u64.wrap ((IntKind.u64.wrap (a0_3)) * 1048576)))) (t136.toList != ([74] : List UInt8)) a0_0 a0_1 a0_2 a0_3 a0_4))))) else (some (0, 1)))) = some (r1, r2) := h
 clear h
 replace H := Option.bind_eq_some_iff.mp H
 obtain ⟨t135, A20, H⟩ := H
 replace H : (if t135 = true then (if a0_0 = 42 then (some (1048691, 0)) else ((caponierref02_Form.f k a0_0).bind fun t136 => ((caponierref02_low.f a0_0).bind fun t137 => (if t136.toList = ([85] : List UInt8) then (caponierref02_Encode.j0 k t136 (IntKind.u64.wrap ((IntKind.u64.wrap ((IntKind.u64.wrap (t137 + (IntKind.u64.wrap ((IntKind.u64.wrap (a0_1)) * 128)))) + (IntKind.u64.wrap ((IntKind.u64.wrap (a0_2)) * 32768)))) + (IntKind.u64.wrap ((IntKind.u64.wrap (a0_3)) * 1048576)))) false a0_0 a0_1 a0_2 a0_3 a0_4) else (caponierref02_Encode.j0 k t136 (IntKind.u64.wrap ((IntKind.u64.wrap ((IntKind.u64.wrap (t137 + (IntKind.u64.wrap ((IntKind.u64.wrap (a0_1)) * 128)))) + (IntKind.u64.wrap ((IntKind.u64.wrap (a0_2)) * 32768)))) + (IntKind.u64.wrap ((IntKind.u64.wrap (a0_3)) * 1048576)))) (t136.toList != ([74] : List UInt8)) a0_0 a0_1 a0_2 a0_3 a0_4))))) else (some (0, 1))) = some (r1, r2) := H
 have A2 := Aside0.mk A20
 clear A20
 by_cases c3 : t135 = true
 ·subst c3
  have H1 : (if a0_0 = 42 then (some (1048691, 0)) else ((caponierref02_Form.f k a0_0).bind fun t136 => ((caponierref02_low.f a0_0).bind fun t137 => (if t136.toList = ([85] : List UInt8) then (caponierref02_Encode.j0 k t136 (IntKind.u64.wrap ((IntKind.u64.wrap ((IntKind.u64.wrap (t137 + (IntKind.u64.wrap ((IntKind.u64.wrap (a0_1)) * 128)))) + (IntKind.u64.wrap ((IntKind.u64.wrap (a0_2)) * 32768)))) + (IntKind.u64.wrap ((IntKind.u64.wrap (a0_3)) * 1048576)))) false a0_0 a0_1 a0_2 a0_3 a0_4) else (caponierref02_Encode.j0 k t136 (IntKind.u64.wrap ((IntKind.u64.wrap ((IntKind.u64.wrap (t137 + (IntKind.u64.wrap ((IntKind.u64.wrap (a0_1)) * 128)))) + (IntKind.u64.wrap ((IntKind.u64.wrap (a0_2)) * 32768)))) + (IntKind.u64.wrap ((IntKind.u64.wrap (a0_3)) * 1048576)))) (t136.toList != ([74] : List UInt8)) a0_0 a0_1 a0_2 a0_3 a0_4))))) = some (r1, r2) := by rw [if_pos rfl] at H; exact H
  clear H
  have H := H1
  clear H1
  by_cases c4 : a0_0 = 42
  ·rw [if_pos c4] at H
   have c4b0 : (a0_0 == 42) = true := beq_iff_eq.mpr c4
   have c4b1 : (a0_0 != 42) = false := bne_eq_false_iff_eq.mpr c4
   clear c4
   simp only [Option.some.injEq, Prod.mk.injEq] at H
   obtain ⟨rfl, rfl⟩ := H
   go_enter Tryd.func11, Tryd.ntmps11
   go_wp2_with (first | ((with_reducible refine gate_dst (N := 1) rfl ?_); refine box_event ?hg (N := 1) ?hd (cs := #[.int .i64 a0_0, .int .i64 a0_1, .int .i64 a0_2, .int .i64 a0_3, .int .i64 a0_4]) (t := 23) ?hr ?_; (case hd => rfl); (case hg => rfl); (case hr => first | (go_simp; done) | (go_simp; rfl)); intro gb134 hg w5 hbox hb; have n0_ := Aside0.mk (below_step (by repeat (first | (with_reducible first | exact HB.out | apply below_alloc | apply pw_below_drewN | apply below_drew1) | exact HB.out)) hb); have n1_ := Aside0.mk (hbox); have n2_ := Aside0.mk ((by rw [hg]; exact (below_size (by repeat (first | (with_reducible first | exact HB.out | apply below_alloc | apply pw_below_drewN | apply below_drew1) | exact HB.out))) : w.heap.size ≤ gb134)); have n3_ := Aside0.mk ((by rw [hg]; exact (below_size (by repeat (first | (with_reducible first | exact HB.out | apply below_alloc | apply pw_below_drewN | apply below_drew1) | exact HB.out))) : w.heap.size ≤ gb134)); clear HB; have HB := n0_; have BK134 := n1_; have GW134 := n2_; have GE134 := n3_; clear n0_ n1_ n2_ n3_; clear hb hbox hg; have hcz6_0 : w5.cell? ⟨gb134, 0, none⟩ = some (.int .i64 a0_0) := (blk_cell BK134.out 0).trans rfl; have hcz6_1 : w5.cell? ⟨gb134, 1, none⟩ = some (.int .i64 a0_1) := (blk_cell BK134.out 1).trans rfl; have hcz6_2 : w5.cell? ⟨gb134, 2, none⟩ = some (.int .i64 a0_2) := (blk_cell BK134.out 2).trans rfl; have hcz6_3 : w5.cell? ⟨gb134, 3, none⟩ = some (.int .i64 a0_3) := (blk_cell BK134.out 3).trans rfl; have hcz6_4 : w5.cell? ⟨gb134, 4, none⟩ = some (.int .i64 a0_4) := (blk_cell BK134.out 4).trans rfl; have hfz6_0 := blk_frozen BK134.out 0; have hfz6_1 := blk_frozen BK134.out 1; have hfz6_2 := blk_frozen BK134.out 2; have hfz6_3 := blk_frozen BK134.out 3; have hfz6_4 := blk_frozen BK134.out 4) | ((with_reducible refine gate_callee (f := 13) rfl ?_); refine goesL_ (some 8) rfl rfl Tryd.func13 (by kernel_rfl) rfl #[.agg #[.int .i64 a0_0, .int .i64 a0_1, .int .i64 a0_2, .int .i64 a0_3, .int .i64 a0_4]] rfl (by (try simp only [List.map_toArray, List.map_cons, List.map_nil]); first | done | rfl | (simp only [List.length_drop, List.length_take]; rfl)) ?_; (with_reducible refine (caponierref02_May.calls k a0_0 a0_1 a0_2 a0_3 a0_4 true _ A2.out).mono ?_); rintro e w7 ⟨rfl, hb⟩; refine ⟨_, rfl, ?_⟩; have n0_ := Aside0.mk (blk_below (g := gb134) (o := .cells #[.int .i64 a0_0, .int .i64 a0_1, .int .i64 a0_2, .int .i64 a0_3, .int .i64 a0_4] 23 (0, 0)) (by (with_reducible repeat (first | refine blk_drewN ?_ _ | refine blk_drew ?_ | refine blk_alloc ?_ _)); exact BK134.out) hb); have n1_ := Aside0.mk (below_step (by repeat (first | (with_reducible first | exact HB.out | apply below_alloc | apply pw_below_drewN | apply below_drew1 | refine below_set ?_ GE134.out) | exact HB.out)) hb); clear BK134; clear HB; have BK134 := n0_; have HB := n1_; clear n0_ n1_; (try clear hb); (try clear hb2); (try clear hk); (try clear hi); have hcz8_0 : w7.cell? ⟨gb134, 0, none⟩ = some (.int .i64 a0_0) := (blk_cell BK134.out 0).trans rfl; have hcz8_1 : w7.cell? ⟨gb134, 1, none⟩ = some (.int .i64 a0_1) := (blk_cell BK134.out 1).trans rfl; have hcz8_2 : w7.cell? ⟨gb134, 2, none⟩ = some (.int .i64 a0_2) := (blk_cell BK134.out 2).trans rfl; have hcz8_3 : w7.cell? ⟨gb134, 3, none⟩ = some (.int .i64 a0_3) := (blk_cell BK134.out 3).trans rfl; have hcz8_4 : w7.cell? ⟨gb134, 4, none⟩ = some (.int .i64 a0_4) := (blk_cell BK134.out 4).trans rfl; have hfz8_0 := blk_frozen BK134.out 0; have hfz8_1 := blk_frozen BK134.out 1; have hfz8_2 := blk_frozen BK134.out 2; have hfz8_3 := blk_frozen BK134.out 3; have hfz8_4 := blk_frozen BK134.out 4))
   go_ret2
   exact ⟨by first | rfl | (simp [errW_none, errW_some] <;> rfl) | (simp [*, errW_none, errW_some] <;> rfl), by repeat (first | (with_reducible first | exact HB.out | apply below_alloc | apply pw_below_drewN | apply below_drew1 | refine below_set ?_ GE134.out) | exact HB.out)⟩
  ·rw [if_neg c4] at H
   have c4b0 : (a0_0 == 42) = false := beq_eq_false_iff_ne.mpr c4
   have c4b1 : (a0_0 != 42) = true := bne_iff_ne.mpr c4
   replace H := Option.bind_eq_some_iff.mp H
   obtain ⟨t136, A90, H⟩ := H
   replace H : ((caponierref02_low.f a0_0).bind fun t137 => (if t136.toList = ([85] : List UInt8) then (caponierref02_Encode.j0 k t136 (IntKind.u64.wrap ((IntKind.u64.wrap ((IntKind.u64.wrap (t137 + (IntKind.u64.wrap ((IntKind.u64.wrap (a0_1)) * 128)))) + (IntKind.u64.wrap ((IntKind.u64.wrap (a0_2)) * 32768)))) + (IntKind.u64.wrap ((IntKind.u64.wrap (a0_3)) * 1048576)))) false a0_0 a0_1 a0_2 a0_3 a0_4) else (caponierref02_Encode.j0 k t136 (IntKind.u64.wrap ((IntKind.u64.wrap ((IntKind.u64.wrap (t137 + (IntKind.u64.wrap ((IntKind.u64.wrap (a0_1)) * 128)))) + (IntKind.u64.wrap ((IntKind.u64.wrap (a0_2)) * 32768)))) + (IntKind.u64.wrap ((IntKind.u64.wrap (a0_3)) * 1048576)))) (t136.toList != ([74] : List UInt8)) a0_0 a0_1 a0_2 a0_3 a0_4))) = some (r1, r2) := H
   have A9 := Aside0.mk A90
   clear A90
   replace H := Option.bind_eq_some_iff.mp H
   obtain ⟨t137, A100, H⟩ := H
   replace H : (if t136.toList = ([85] : List UInt8) then (caponierref02_Encode.j0 k t136 (IntKind.u64.wrap ((IntKind.u64.wrap ((IntKind.u64.wrap (t137 + (IntKind.u64.wrap ((IntKind.u64.wrap (a0_1)) * 128)))) + (IntKind.u64.wrap ((IntKind.u64.wrap (a0_2)) * 32768)))) + (IntKind.u64.wrap ((IntKind.u64.wrap (a0_3)) * 1048576)))) false a0_0 a0_1 a0_2 a0_3 a0_4) else (caponierref02_Encode.j0 k t136 (IntKind.u64.wrap ((IntKind.u64.wrap ((IntKind.u64.wrap (t137 + (IntKind.u64.wrap ((IntKind.u64.wrap (a0_1)) * 128)))) + (IntKind.u64.wrap ((IntKind.u64.wrap (a0_2)) * 32768)))) + (IntKind.u64.wrap ((IntKind.u64.wrap (a0_3)) * 1048576)))) (t136.toList != ([74] : List UInt8)) a0_0 a0_1 a0_2 a0_3 a0_4)) = some (r1, r2) := H
   have A10 := Aside0.mk A100
   clear A100
   have HC11 := Aside0.mk H
   clear H
   go_enter Tryd.func11, Tryd.ntmps11
   try go_wp2_with (first | ((with_reducible refine gate_dst (N := 1) rfl ?_); refine box_event ?hg (N := 1) ?hd (cs := #[.int .i64 a0_0, .int .i64 a0_1, .int .i64 a0_2, .int .i64 a0_3, .int .i64 a0_4]) (t := 23) ?hr ?_; (case hd => rfl); (case hg => rfl); (case hr => first | (go_simp; done) | (go_simp; rfl)); intro gb134 hg w12 hbox hb; have n0_ := Aside0.mk (below_step (by repeat (first | (with_reducible first | exact HB.out | apply below_alloc | apply pw_below_drewN | apply below_drew1) | exact HB.out)) hb); have n1_ := Aside0.mk (hbox); have n2_ := Aside0.mk ((by rw [hg]; exact (below_size (by repeat (first | (with_reducible first | exact HB.out | apply below_alloc | apply pw_below_drewN | apply below_drew1) | exact HB.out))) : w.heap.size ≤ gb134)); have n3_ := Aside0.mk ((by rw [hg]; exact (below_size (by repeat (first | (with_reducible first | exact HB.out | apply below_alloc | apply pw_below_drewN | apply below_drew1) | exact HB.out))) : w.heap.size ≤ gb134)); clear HB; have HB := n0_; have BK134 := n1_; have GW134 := n2_; have GE134 := n3_; clear n0_ n1_ n2_ n3_; clear hb hbox hg; have hcz13_0 : w12.cell? ⟨gb134, 0, none⟩ = some (.int .i64 a0_0) := (blk_cell BK134.out 0).trans rfl; have hcz13_1 : w12.cell? ⟨gb134, 1, none⟩ = some (.int .i64 a0_1) := (blk_cell BK134.out 1).trans rfl; have hcz13_2 : w12.cell? ⟨gb134, 2, none⟩ = some (.int .i64 a0_2) := (blk_cell BK134.out 2).trans rfl; have hcz13_3 : w12.cell? ⟨gb134, 3, none⟩ = some (.int .i64 a0_3) := (blk_cell BK134.out 3).trans rfl; have hcz13_4 : w12.cell? ⟨gb134, 4, none⟩ = some (.int .i64 a0_4) := (blk_cell BK134.out 4).trans rfl; have hfz13_0 := blk_frozen BK134.out 0; have hfz13_1 := blk_frozen BK134.out 1; have hfz13_2 := blk_frozen BK134.out 2; have hfz13_3 := blk_frozen BK134.out 3; have hfz13_4 := blk_frozen BK134.out 4) | ((with_reducible refine gate_callee (f := 13) rfl ?_); refine goesL_ (some 8) rfl rfl Tryd.func13 (by kernel_rfl) rfl #[.agg #[.int .i64 a0_0, .int .i64 a0_1, .int .i64 a0_2, .int .i64 a0_3, .int .i64 a0_4]] rfl (by (try simp only [List.map_toArray, List.map_cons, List.map_nil]); first | done | rfl | (simp only [List.length_drop, List.length_take]; rfl)) ?_; (with_reducible refine (caponierref02_May.calls k a0_0 a0_1 a0_2 a0_3 a0_4 true _ A2.out).mono ?_); rintro e w14 ⟨rfl, hb⟩; refine ⟨_, rfl, ?_⟩; have n0_ := Aside0.mk (blk_below (g := gb134) (o := .cells #[.int .i64 a0_0, .int .i64 a0_1, .int .i64 a0_2, .int .i64 a0_3, .int .i64 a0_4] 23 (0, 0)) (by (with_reducible repeat (first | refine blk_drewN ?_ _ | refine blk_drew ?_ | refine blk_alloc ?_ _)); exact BK134.out) hb); have n1_ := Aside0.mk (below_step (by repeat (first | (with_reducible first | exact HB.out | apply below_alloc | apply pw_below_drewN | apply below_drew1 | refine below_set ?_ GE134.out) | exact HB.out)) hb); clear BK134; clear HB; have BK134 := n0_; have HB := n1_; clear n0_ n1_; (try clear hb); (try clear hb2); (try clear hk); (try clear hi); have hcz15_0 : w14.cell? ⟨gb134, 0, none⟩ = some (.int .i64 a0_0) := (blk_cell BK134.out 0).trans rfl; have hcz15_1 : w14.cell? ⟨gb134, 1, none⟩ = some (.int .i64 a0_1) := (blk_cell BK134.out 1).trans rfl; have hcz15_2 : w14.cell? ⟨gb134, 2, none⟩ = some (.int .i64 a0_2) := (blk_cell BK134.out 2).trans rfl; have hcz15_3 : w14.cell? ⟨gb134, 3, none⟩ = some (.int .i64 a0_3) := (blk_cell BK134.out 3).trans rfl; have hcz15_4 : w14.cell? ⟨gb134, 4, none⟩ = some (.int .i64 a0_4) := (blk_cell BK134.out 4).trans rfl; have hfz15_0 := blk_frozen BK134.out 0; have hfz15_1 := blk_frozen BK134.out 1; have hfz15_2 := blk_frozen BK134.out 2; have hfz15_3 := blk_frozen BK134.out 3; have hfz15_4 := blk_frozen BK134.out 4) | ((with_reducible refine gate_callee (f := 15) rfl ?_); refine goesL_ (some 15) rfl rfl Tryd.func15 (by kernel_rfl) rfl #[.int .i64 a0_0] rfl (by (try simp only [List.map_toArray, List.map_cons, List.map_nil]); first | done | rfl | (simp only [List.length_drop, List.length_take]; rfl)) ?_; (with_reducible refine (caponierref02_Form.calls k a0_0 t136 _ A9.out).mono ?_); rintro e w' ⟨rfl, ⟨nd, rfl⟩⟩; refine ⟨_, rfl, ?_⟩))
   (try (rw [drewN_self w14]; generalize hq_ : World.drewN w14 _ = w14; have n0_ : Aside0 (w14.heap[gb134]? = some (.cells #[.int .i64 a0_0, .int .i64 a0_1, .int .i64 a0_2, .int .i64 a0_3, .int .i64 a0_4] 23 (0, 0))) := ⟨by rw [← hq_]; exact (by (with_reducible repeat (first | refine blk_drewN ?_ _ | refine blk_drew ?_ | refine blk_alloc ?_ _)); exact BK134.out)⟩; have n1_ : Aside0 (Below w.heap.size w w14) := ⟨by rw [← hq_]; exact (by repeat (first | (with_reducible first | exact HB.out | apply below_alloc | apply pw_below_drewN | apply below_drew1 | refine below_set ?_ GE134.out) | exact HB.out))⟩; clear BK134 HB hq_; have BK134 := n0_; have HB := n1_; clear n0_ n1_))
   have n0_ := Aside0.mk (blk_drew BK134.out)
   have n1_ := Aside0.mk (below_drew1 HB.out)
   clear BK134
   clear HB
   have BK134 := n0_
   have HB := n1_
   clear n0_ n1_
   refine start_ (n := 19) (S := fun w' => w'.cell? ⟨gb134, 0, none⟩ = some (.int .i64 a0_0) ∧ w'.cell? ⟨gb134, 1, none⟩ = some (.int .i64 a0_1) ∧ w'.cell? ⟨gb134, 2, none⟩ = some (.int .i64 a0_2) ∧ w'.cell? ⟨gb134, 3, none⟩ = some (.int .i64 a0_3) ∧ w'.cell? ⟨gb134, 4, none⟩ = some (.int .i64 a0_4)) (ds := []) #[false, false, false, false, false, false, false, false, false, false, false, false, false, false, false, false, false, false, false] (by kernel_rfl) rfl rfl ⟨(blk_cell BK134.out 0).trans rfl, (blk_cell BK134.out 1).trans rfl, (blk_cell BK134.out 2).trans rfl, (blk_cell BK134.out 3).trans rfl, (blk_cell BK134.out 4).trans rfl⟩ (fun hHeld => ?_); refine with_tabW caponierref02_Encode.tab6 caponierref02_Encode.bits6 (fun HT_ HW_ => ?_)
   generalize w14.drew = w16 at BK134 HB hHeld ⊢
   refine pure_ (i := 0) (N := some 16) (v := ?_) (a' := ?_) #[true, false, false, false, false, false, false, false, false, false, false, false, false, false, false, false, false, false, false] rfl rfl (any_of HT_.out (by kernel_rfl)) (fun _ _ _ h => h) (Or.inl ⟨by rfl, ?_⟩) ?_ ?_
   rotate_left
   ·intro w'
    go_simp
    with_reducible rfl
   rotate_left
   ·simp only [Act.put, List.setIfInBounds_toArray, List.set_cons_zero, List.set_cons_succ, i64_w, i32_w]
    rfl
   refine pure_ (i := 3) (N := some 19) (v := ?_) (a' := ?_) #[true, false, false, true, false, false, false, false, false, false, false, false, false, false, false, false, false, false, false] rfl rfl (any_of HT_.out (by kernel_rfl)) (fun _ _ _ h => h) (Or.inl ⟨by rfl, ?_⟩) ?_ ?_
   rotate_left
   ·intro w'
    go_simp
    with_reducible rfl
   rotate_left
   ·simp only [Act.put, List.setIfInBounds_toArray, List.set_cons_zero, List.set_cons_succ, i64_w, i32_w]
    rfl
   refine pure_ (i := 8) (N := some 24) (v := ?_) (a' := ?_) #[true, false, false, true, false, false, false, false, true, false, false, false, false, false, false, false, false, false, false] rfl rfl (any_of HT_.out (by kernel_rfl)) (fun _ _ _ h => h) (Or.inl ⟨by rfl, ?_⟩) ?_ ?_
   rotate_left
   ·intro w'
    go_simp
    with_reducible rfl
   rotate_left
   ·simp only [Act.put, List.setIfInBounds_toArray, List.set_cons_zero, List.set_cons_succ, i64_w, i32_w]
    rfl
   refine pure_ (i := 13) (N := some 29) (v := ?_) (a' := ?_) #[true, false, false, true, false, false, false, false, true, false, false, false, false, true, false, false, false, false, false] rfl rfl (any_of HT_.out (by kernel_rfl)) (fun _ _ _ h => h) (Or.inl ⟨by rfl, ?_⟩) ?_ ?_
   rotate_left
   ·intro w'
    go_simp
    with_reducible rfl
   rotate_left
   ·simp only [Act.put, List.setIfInBounds_toArray, List.set_cons_zero, List.set_cons_succ, i64_w, i32_w]
    rfl
   refine take_ (i := 1) (N := some 17) (v := ?_) (a' := ?_) #[true, true, false, true, false, false, false, false, true, false, false, false, false, true, false, false, false, false, false] rfl rfl (take_ofW HT_.out HW_.out (by kernel_rfl)) (fun _ _ _ h => h) (Or.inl ⟨by rfl, ?_⟩) hHeld ?_ ?_
   rotate_left
   ·rintro w' ⟨s0, s1, s2, s3, s4⟩
    go_simp
    with_reducible rfl
   rotate_left
   ·simp only [Act.put, List.setIfInBounds_toArray, List.set_cons_zero, List.set_cons_succ, i64_w, i32_w]
    rfl
   refine take_ (i := 4) (N := some 20) (v := ?_) (a' := ?_) #[true, true, false, true, true, false, false, false, true, false, false, false, false, true, false, false, false, false, false] rfl rfl (take_ofW HT_.out HW_.out (by kernel_rfl)) (fun _ _ _ h => h) (Or.inl ⟨by rfl, ?_⟩) hHeld ?_ ?_
   rotate_left
   ·rintro w' ⟨s0, s1, s2, s3, s4⟩
    go_simp
    with_reducible rfl
   rotate_left
   ·simp only [Act.put, List.setIfInBounds_toArray, List.set_cons_zero, List.set_cons_succ, i64_w, i32_w]
    rfl
   refine pure_ (i := 5) (N := some 21) (v := ?_) (a' := ?_) #[true, true, false, true, true, true, false, false, true, false, false, false, false, true, false, false, false, false, false] rfl rfl (any_of HT_.out (by kernel_rfl)) (fun _ _ _ h => h) (Or.inl ⟨by rfl, ?_⟩) ?_ ?_
   rotate_left
   ·intro w'
    go_simp
    with_reducible rfl
   rotate_left
   ·simp only [Act.put, List.setIfInBounds_toArray, List.set_cons_zero, List.set_cons_succ, i64_w, i32_w]
    rfl
   refine pure_ (i := 6) (N := some 22) (v := ?_) (a' := ?_) #[true, true, false, true, true, true, true, false, true, false, false, false, false, true, false, false, false, false, false] rfl rfl (any_of HT_.out (by kernel_rfl)) (fun _ _ _ h => h) (Or.inl ⟨by rfl, ?_⟩) ?_ ?_
   rotate_left
   ·intro w'
    go_simp
    with_reducible rfl
   rotate_left
   ·simp only [Act.put, List.setIfInBounds_toArray, List.set_cons_zero, List.set_cons_succ, i64_w, i32_w]
    rfl
   refine take_ (i := 9) (N := some 25) (v := ?_) (a' := ?_) #[true, true, false, true, true, true, true, false, true, true, false, false, false, true, false, false, false, false, false] rfl rfl (take_ofW HT_.out HW_.out (by kernel_rfl)) (fun _ _ _ h => h) (Or.inl ⟨by rfl, ?_⟩) hHeld ?_ ?_
   rotate_left
   ·rintro w' ⟨s0, s1, s2, s3, s4⟩
    go_simp
    with_reducible rfl
   rotate_left
   ·simp only [Act.put, List.setIfInBounds_toArray, List.set_cons_zero, List.set_cons_succ, i64_w, i32_w]
    rfl
   refine pure_ (i := 10) (N := some 26) (v := ?_) (a' := ?_) #[true, true, false, true, true, true, true, false, true, true, true, false, false, true, false, false, false, false, false] rfl rfl (any_of HT_.out (by kernel_rfl)) (fun _ _ _ h => h) (Or.inl ⟨by rfl, ?_⟩) ?_ ?_
   rotate_left
   ·intro w'
    go_simp
    with_reducible rfl
   rotate_left
   ·simp only [Act.put, List.setIfInBounds_toArray, List.set_cons_zero, List.set_cons_succ, i64_w, i32_w]
    rfl
   refine pure_ (i := 11) (N := some 27) (v := ?_) (a' := ?_) #[true, true, false, true, true, true, true, false, true, true, true, true, false, true, false, false, false, false, false] rfl rfl (any_of HT_.out (by kernel_rfl)) (fun _ _ _ h => h) (Or.inl ⟨by rfl, ?_⟩) ?_ ?_
   rotate_left
   ·intro w'
    go_simp
    with_reducible rfl
   rotate_left
   ·simp only [Act.put, List.setIfInBounds_toArray, List.set_cons_zero, List.set_cons_succ, i64_w, i32_w]
    rfl
   refine take_ (i := 14) (N := some 30) (v := ?_) (a' := ?_) #[true, true, false, true, true, true, true, false, true, true, true, true, false, true, true, false, false, false, false] rfl rfl (take_ofW HT_.out HW_.out (by kernel_rfl)) (fun _ _ _ h => h) (Or.inl ⟨by rfl, ?_⟩) hHeld ?_ ?_
   rotate_left
   ·rintro w' ⟨s0, s1, s2, s3, s4⟩
    go_simp
    with_reducible rfl
   rotate_left
   ·simp only [Act.put, List.setIfInBounds_toArray, List.set_cons_zero, List.set_cons_succ, i64_w, i32_w]
    rfl
   refine pure_ (i := 15) (N := some 31) (v := ?_) (a' := ?_) #[true, true, false, true, true, true, true, false, true, true, true, true, false, true, true, true, false, false, false] rfl rfl (any_of HT_.out (by kernel_rfl)) (fun _ _ _ h => h) (Or.inl ⟨by rfl, ?_⟩) ?_ ?_
   rotate_left
   ·intro w'
    go_simp
    with_reducible rfl
   rotate_left
   ·simp only [Act.put, List.setIfInBounds_toArray, List.set_cons_zero, List.set_cons_succ, i64_w, i32_w]
    rfl
   refine pure_ (i := 16) (N := some 32) (v := ?_) (a' := ?_) #[true, true, false, true, true, true, true, false, true, true, true, true, false, true, true, true, true, false, false] rfl rfl (any_of HT_.out (by kernel_rfl)) (fun _ _ _ h => h) (Or.inl ⟨by rfl, ?_⟩) ?_ ?_
   rotate_left
   ·intro w'
    go_simp
    with_reducible rfl
   rotate_left
   ·simp only [Act.put, List.setIfInBounds_toArray, List.set_cons_zero, List.set_cons_succ, i64_w, i32_w]
    rfl
   refine one_ (i := 2) (N := some 18) #[true, true, true, true, true, true, true, false, true, true, true, true, false, true, true, true, true, false, false] rfl rfl (one_of HT_.out (by kernel_rfl)) (by decide) (fun K hK => ?_)
   refine goes_ Tryd.func22 (by kernel_rfl) rfl #[.int .i64 a0_0] (by rfl) rfl rfl (by (try simp only [List.map_toArray, List.map_cons, List.map_nil]); first | done | rfl | (simp only [List.length_drop, List.length_take]; rfl)) ?_
   with_reducible refine (caponierref02_low.calls a0_0 t137 _ A10.out).mono ?_
   rintro e w17 ⟨rfl, hb⟩
   refine ⟨_, rfl, ?_⟩
   have n0_ := Aside0.mk (blk_below (g := gb134) (o := .cells #[.int .i64 a0_0, .int .i64 a0_1, .int .i64 a0_2, .int .i64 a0_3, .int .i64 a0_4] 23 (0, 0)) (by (with_reducible repeat (first | refine blk_drewN ?_ _ | refine blk_drew ?_ | refine blk_alloc ?_ _)); exact BK134.out) hb)
   have n1_ := Aside0.mk (below_step (by repeat (first | (with_reducible first | exact HB.out | apply below_alloc | apply pw_below_drewN | apply below_drew1 | refine below_set ?_ GE134.out) | exact HB.out)) hb)
   clear BK134
   clear HB
   have BK134 := n0_
   have HB := n1_
   clear n0_ n1_
   (try clear hb)
   (try clear hb2)
   (try clear hk)
   (try clear hi)
   refine hK.out _ _ ⟨(blk_cell BK134.out 0).trans rfl, (blk_cell BK134.out 1).trans rfl, (blk_cell BK134.out 2).trans rfl, (blk_cell BK134.out 3).trans rfl, (blk_cell BK134.out 4).trans rfl⟩ (fun hHeld => ?_)
   clear hK K
   refine norm_ (a' := ?_) ?_ ?_
   rotate_left
   ·show Act.put _ (some 18) _ = _
    simp only [Act.put, List.setIfInBounds_toArray, List.set_cons_zero, List.set_cons_succ, i64_w, i32_w]
    rfl
   refine pure_ (i := 7) (N := some 23) (v := ?_) (a' := ?_) #[true, true, true, true, true, true, true, true, true, true, true, true, false, true, true, true, true, false, false] rfl rfl (any_of HT_.out (by kernel_rfl)) (fun _ _ _ h => h) (Or.inl ⟨by rfl, ?_⟩) ?_ ?_
   rotate_left
   ·intro w'
    go_simp
    with_reducible rfl
   rotate_left
   ·simp only [Act.put, List.setIfInBounds_toArray, List.set_cons_zero, List.set_cons_succ, i64_w, i32_w]
    rfl
   refine pure_ (i := 12) (N := some 28) (v := ?_) (a' := ?_) #[true, true, true, true, true, true, true, true, true, true, true, true, true, true, true, true, true, false, false] rfl rfl (any_of HT_.out (by kernel_rfl)) (fun _ _ _ h => h) (Or.inl ⟨by rfl, ?_⟩) ?_ ?_
   rotate_left
   ·intro w'
    go_simp
    with_reducible rfl
   rotate_left
   ·simp only [Act.put, List.setIfInBounds_toArray, List.set_cons_zero, List.set_cons_succ, i64_w, i32_w]
    rfl
   refine pure_ (i := 17) (N := some 33) (v := ?_) (a' := ?_) #[true, true, true, true, true, true, true, true, true, true, true, true, true, true, true, true, true, true, false] rfl rfl (any_of HT_.out (by kernel_rfl)) (fun _ _ _ h => h) (Or.inl ⟨by rfl, ?_⟩) ?_ ?_
   rotate_left
   ·intro w'
    go_simp
    with_reducible rfl
   rotate_left
   ·simp only [Act.put, List.setIfInBounds_toArray, List.set_cons_zero, List.set_cons_succ, i64_w, i32_w]
    rfl
   refine pure_ (i := 18) (N := some 5) (v := ?_) (a' := ?_) #[true, true, true, true, true, true, true, true, true, true, true, true, true, true, true, true, true, true, true] rfl rfl (any_of HT_.out (by kernel_rfl)) (fun _ _ _ h => h) (Or.inl ⟨by rfl, ?_⟩) ?_ ?_
   rotate_left
   ·intro w'
    go_simp
    with_reducible rfl
   rotate_left
   ·simp only [Act.put, List.setIfInBounds_toArray, List.set_cons_zero, List.set_cons_succ, i64_w, i32_w]
    rfl
   refine done_ (done_of HT_.out (by kernel_rfl)) ?_
   go_upto_region 7 with (fail)
   go_cut [39] (fun v39 wc => ∃ (kq : Nat) (x39_10 : Bool), v39 = .bool x39_10 ∧ Aside0 (caponierref02_Encode.j0 kq t136 (IntKind.u64.wrap ((IntKind.u64.wrap ((IntKind.u64.wrap (t137 + (IntKind.u64.wrap ((IntKind.u64.wrap (a0_1)) * 128)))) + (IntKind.u64.wrap ((IntKind.u64.wrap (a0_2)) * 32768)))) + (IntKind.u64.wrap ((IntKind.u64.wrap (a0_3)) * 1048576)))) x39_10 a0_0 a0_1 a0_2 a0_3 a0_4 = some (r1, r2)) ∧ Aside0 (kq ≤ k) ∧ Aside0 (wc.heap[gb134]? = some (.cells #[.int .i64 a0_0, .int .i64 a0_1, .int .i64 a0_2, .int .i64 a0_3, .int .i64 a0_4] 23 (0, 0))) ∧ Aside0 (Below w.heap.size w wc))
   case first =>
    have H := HC11.out
    clear HC11
    by_cases c18 : t136.toList = ([85] : List UInt8)
    ·rw [if_pos c18] at H
     have c18b0 : (t136.toList == ([85] : List UInt8)) = true := beq_iff_eq.mpr c18
     have c18b1 : (t136.toList != ([85] : List UInt8)) = false := bne_eq_false_iff_eq.mpr c18
     clear c18
     (first | rw [c18b0] | (simp only [i64_w, i32_w]; rw [c18b0]) | skip)
     have H' := Aside0.mk H
     clear H
     go_wp2
     go_meet
     case rel => exact ⟨_, (false), (by first | rfl | (simp; done) | (simp [*]; done)), H', ⟨by first | omega | exact Nat.le_refl _⟩, ⟨by (with_reducible repeat (first | refine blk_drewN ?_ _ | refine blk_drew ?_ | refine blk_alloc ?_ _)); exact BK134.out⟩, ⟨by repeat (first | (with_reducible first | exact HB.out | apply below_alloc | apply pw_below_drewN | apply below_drew1 | refine below_set ?_ GE134.out) | exact HB.out)⟩⟩
    ·rw [if_neg c18] at H
     have c18b0 : (t136.toList == ([85] : List UInt8)) = false := beq_eq_false_iff_ne.mpr c18
     have c18b1 : (t136.toList != ([85] : List UInt8)) = true := bne_iff_ne.mpr c18
     (first | rw [c18b0] | (simp only [i64_w, i32_w]; rw [c18b0]) | skip)
     have H' := Aside0.mk H
     clear H
     go_wp2
     go_meet
     case rel => exact ⟨_, ((t136.toList != ([74] : List UInt8))), (by first | rfl | (simp; done) | (simp [*]; done)), H', ⟨by first | omega | exact Nat.le_refl _⟩, ⟨by (with_reducible repeat (first | refine blk_drewN ?_ _ | refine blk_drew ?_ | refine blk_alloc ?_ _)); exact BK134.out⟩, ⟨by repeat (first | (with_reducible first | exact HB.out | apply below_alloc | apply pw_below_drewN | apply below_drew1 | refine below_set ?_ GE134.out) | exact HB.out)⟩⟩
   case rest =>
    clear HC11
    try clear c1
    try clear c2
    try clear p2
    try clear c3
    try clear c4
    try clear c4b0
    try clear c4b1
    try clear c11
    try clear c13
    try clear c15
    try clear c18
    try clear c18b0
    try clear c18b1
    try clear hcz13_0
    try clear hcz13_1
    try clear hcz13_2
    try clear hcz13_3
    try clear hcz13_4
    try clear hcz15_0
    try clear hcz15_1
    try clear hcz15_2
    try clear hcz15_3
    try clear hcz15_4
    try clear hcz6_0
    try clear hcz6_1
    try clear hcz6_2
    try clear hcz6_3
    try clear hcz6_4
    try clear hcz8_0
    try clear hcz8_1
    try clear hcz8_2
    try clear hcz8_3
    try clear hcz8_4
    try clear hfz13_0
    try clear hfz13_1
    try clear hfz13_2
    try clear hfz13_3
    try clear hfz13_4
    try clear hfz15_0
    try clear hfz15_1
    try clear hfz15_2
    try clear hfz15_3
    try clear hfz15_4
    try clear hfz6_0
    try clear hfz6_1
    try clear hfz6_2
    try clear hfz6_3
    try clear hfz6_4
    try clear hfz8_0
    try clear hfz8_1
    try clear hfz8_2
    try clear hfz8_3
    try clear hfz8_4
    obtain ⟨kq, x39_10, rfl, HA, HJ10, BK134, HB⟩ := hcut
    cases kq with
    | zero => exact absurd HA.out (by simp [caponierref02_Encode.j0])
    | succ kj10 =>
     have H := HA.out
     clear HA
     simp only [caponierref02_Encode.j0] at H
     have HC19 := Aside0.mk H
     clear H
     go_upto_if 39 with (fail)
     go_cut [5] (fun v5 wc => ∃ (kq : Nat) (x5_18 : Int), v5 = .int .u64 x5_18 ∧ Aside0 (caponierref02_Encode.j1 kq t136 x5_18 a0_0 a0_1 a0_2 a0_3 a0_4 = some (r1, r2)) ∧ Aside0 (kq ≤ kj10) ∧ Aside0 (wc.heap[gb134]? = some (.cells #[.int .i64 a0_0, .int .i64 a0_1, .int .i64 a0_2, .int .i64 a0_3, .int .i64 a0_4] 23 (0, 0))) ∧ Aside0 (Below w.heap.size w wc))
     case first =>
      have H := HC19.out
      clear HC19
      by_cases c20 : x39_10 = true
      ·subst c20
       have H1 : ((caponierref02_Kind.f a0_0).bind fun t138 => (caponierref02_Encode.j1 kj10 t136 (IntKind.u64.wrap ((IntKind.u64.wrap ((IntKind.u64.wrap ((IntKind.u64.wrap (t137 + (IntKind.u64.wrap ((IntKind.u64.wrap (a0_1)) * 128)))) + (IntKind.u64.wrap ((IntKind.u64.wrap (a0_2)) * 32768)))) + (IntKind.u64.wrap ((IntKind.u64.wrap (a0_3)) * 1048576)))) + (IntKind.u64.wrap (t138 * 4096)))) a0_0 a0_1 a0_2 a0_3 a0_4)) = some (r1, r2) := by rw [if_pos rfl] at H; exact H
       clear H
       have H := H1
       clear H1
       replace H := Option.bind_eq_some_iff.mp H
       obtain ⟨t138, A210, H⟩ := H
       replace H : (caponierref02_Encode.j1 kj10 t136 (IntKind.u64.wrap ((IntKind.u64.wrap ((IntKind.u64.wrap ((IntKind.u64.wrap (t137 + (IntKind.u64.wrap ((IntKind.u64.wrap (a0_1)) * 128)))) + (IntKind.u64.wrap ((IntKind.u64.wrap (a0_2)) * 32768)))) + (IntKind.u64.wrap ((IntKind.u64.wrap (a0_3)) * 1048576)))) + (IntKind.u64.wrap (t138 * 4096)))) a0_0 a0_1 a0_2 a0_3 a0_4) = some (r1, r2) := H
       have A21 := Aside0.mk A210
       clear A210
       have H' := Aside0.mk H
       clear H
       have hcz22_0 : wc.cell? ⟨gb134, 0, none⟩ = some (.int .i64 a0_0) := (blk_cell BK134.out 0).trans rfl
       have hcz22_1 : wc.cell? ⟨gb134, 1, none⟩ = some (.int .i64 a0_1) := (blk_cell BK134.out 1).trans rfl
       have hcz22_2 : wc.cell? ⟨gb134, 2, none⟩ = some (.int .i64 a0_2) := (blk_cell BK134.out 2).trans rfl
       have hcz22_3 : wc.cell? ⟨gb134, 3, none⟩ = some (.int .i64 a0_3) := (blk_cell BK134.out 3).trans rfl
       have hcz22_4 : wc.cell? ⟨gb134, 4, none⟩ = some (.int .i64 a0_4) := (blk_cell BK134.out 4).trans rfl
       have hfz22_0 := blk_frozen BK134.out 0
       have hfz22_1 := blk_frozen BK134.out 1
       have hfz22_2 := blk_frozen BK134.out 2
       have hfz22_3 := blk_frozen BK134.out 3
       have hfz22_4 := blk_frozen BK134.out 4
       go_wp2_with (first | ((with_reducible refine gate_callee (f := 23) rfl ?_); refine goesL_ (some 43) rfl rfl Tryd.func23 (by kernel_rfl) rfl #[.int .i64 a0_0] rfl (by (try simp only [List.map_toArray, List.map_cons, List.map_nil]); first | done | rfl | (simp only [List.length_drop, List.length_take]; rfl)) ?_; (with_reducible refine (caponierref02_Kind.calls a0_0 t138 _ A21.out).mono ?_); rintro e w23 ⟨rfl, hb⟩; refine ⟨_, rfl, ?_⟩; have n0_ := Aside0.mk (blk_below (g := gb134) (o := .cells #[.int .i64 a0_0, .int .i64 a0_1, .int .i64 a0_2, .int .i64 a0_3, .int .i64 a0_4] 23 (0, 0)) (by (with_reducible repeat (first | refine blk_drewN ?_ _ | refine blk_drew ?_ | refine blk_alloc ?_ _)); exact BK134.out) hb); have n1_ := Aside0.mk (below_step (by repeat (first | (with_reducible first | exact HB.out | apply below_alloc | apply pw_below_drewN | apply below_drew1 | refine below_set ?_ GE134.out) | exact HB.out)) hb); clear BK134; clear HB; have BK134 := n0_; have HB := n1_; clear n0_ n1_; (try clear hb); (try clear hb2); (try clear hk); (try clear hi)))
       go_meet
       case rel => exact ⟨_, (IntKind.u64.wrap ((IntKind.u64.wrap ((IntKind.u64.wrap ((IntKind.u64.wrap (t137 + (IntKind.u64.wrap ((IntKind.u64.wrap (a0_1)) * 128)))) + (IntKind.u64.wrap ((IntKind.u64.wrap (a0_2)) * 32768)))) + (IntKind.u64.wrap ((IntKind.u64.wrap (a0_3)) * 1048576)))) + (IntKind.u64.wrap (t138 * 4096)))), (by first | rfl | (simp; done) | (simp [*]; done)), H', ⟨by have := HJ10.out; first | omega | exact Nat.le_refl _⟩, ⟨by (with_reducible repeat (first | refine blk_drewN ?_ _ | refine blk_drew ?_ | refine blk_alloc ?_ _)); exact BK134.out⟩, ⟨by repeat (first | (with_reducible first | exact HB.out | apply below_alloc | apply pw_below_drewN | apply below_drew1 | refine below_set ?_ GE134.out) | exact HB.out)⟩⟩
      ·replace c20 := Bool.eq_false_iff.mpr c20
       subst c20
       have H1 : (caponierref02_Encode.j1 kj10 t136 (IntKind.u64.wrap ((IntKind.u64.wrap ((IntKind.u64.wrap (t137 + (IntKind.u64.wrap ((IntKind.u64.wrap (a0_1)) * 128)))) + (IntKind.u64.wrap ((IntKind.u64.wrap (a0_2)) * 32768)))) + (IntKind.u64.wrap ((IntKind.u64.wrap (a0_3)) * 1048576)))) a0_0 a0_1 a0_2 a0_3 a0_4) = some (r1, r2) := by rw [if_neg (show ¬ (false = true) by decide)] at H; exact H
       clear H
       have H := H1
       clear H1
       have H' := Aside0.mk H
       clear H
       go_wp2
       go_meet
       case rel => exact ⟨_, ((IntKind.u64.wrap ((IntKind.u64.wrap ((IntKind.u64.wrap (t137 + (IntKind.u64.wrap ((IntKind.u64.wrap (a0_1)) * 128)))) + (IntKind.u64.wrap ((IntKind.u64.wrap (a0_2)) * 32768)))) + (IntKind.u64.wrap ((IntKind.u64.wrap (a0_3)) * 1048576))))), (by first | rfl | (simp; done) | (simp [*]; done)), H', ⟨by have := HJ10.out; first | omega | exact Nat.le_refl _⟩, ⟨by (with_reducible repeat (first | refine blk_drewN ?_ _ | refine blk_drew ?_ | refine blk_alloc ?_ _)); exact BK134.out⟩, ⟨by repeat (first | (with_reducible first | exact HB.out | apply below_alloc | apply pw_below_drewN | apply below_drew1 | refine below_set ?_ GE134.out) | exact HB.out)⟩⟩
     case rest =>
      clear HC19
      try clear c1
      try clear c2
      try clear p2
      try clear c3
      try clear c4
      try clear c4b0
      try clear c4b1
      try clear c11
      try clear c13
      try clear c15
      try clear c18
      try clear c18b0
      try clear c18b1
      try clear c20
      try clear c22
      try clear c23
      try clear hcz13_0
      try clear hcz13_1
      try clear hcz13_2
      try clear hcz13_3
      try clear hcz13_4
      try clear hcz15_0
      try clear hcz15_1
      try clear hcz15_2
      try clear hcz15_3
      try clear hcz15_4
      try clear hcz22_0
      try clear hcz22_1
      try clear hcz22_2
      try clear hcz22_3
      try clear hcz22_4
      try clear hcz6_0
      try clear hcz6_1
      try clear hcz6_2
      try clear hcz6_3
      try clear hcz6_4
      try clear hcz8_0
      try clear hcz8_1
      try clear hcz8_2
      try clear hcz8_3
      try clear hcz8_4
      try clear hfz13_0
      try clear hfz13_1
      try clear hfz13_2
      try clear hfz13_3
      try clear hfz13_4
      try clear hfz15_0
      try clear hfz15_1
      try clear hfz15_2
      try clear hfz15_3
      try clear hfz15_4
      try clear hfz22_0
      try clear hfz22_1
      try clear hfz22_2
      try clear hfz22_3
      try clear hfz22_4
      try clear hfz6_0
      try clear hfz6_1
      try clear hfz6_2
      try clear hfz6_3
      try clear hfz6_4
      try clear hfz8_0
      try clear hfz8_1
      try clear hfz8_2
      try clear hfz8_3
      try clear hfz8_4
      try clear p2
      obtain ⟨kq, x5_18, rfl, HA, HJ18, BK134, HB⟩ := hcut
      cases kq with
      | zero => exact absurd HA.out (by simp [caponierref02_Encode.j1])
      | succ kj18 =>
       have H := HA.out
       clear HA
       simp only [caponierref02_Encode.j1] at H
       by_cases c24 : t136.toList = ([82] : List UInt8)
       ·rw [if_pos c24] at H
        have c24b0 : (t136.toList == ([82] : List UInt8)) = true := beq_iff_eq.mpr c24
        have c24b1 : (t136.toList != ([82] : List UInt8)) = false := bne_eq_false_iff_eq.mpr c24
        clear c24
        replace H := Option.bind_eq_some_iff.mp H
        obtain ⟨t139, A250, H⟩ := H
        replace H : (some ((IntKind.u64.wrap (x5_18 + (IntKind.u64.wrap (t139 * 33554432)))) % 4294967296, 0)) = some (r1, r2) := H
        have A25 := Aside0.mk A250
        clear A250
        simp only [Option.some.injEq, Prod.mk.injEq] at H
        obtain ⟨rfl, rfl⟩ := H
        have hcz26_0 : wc.cell? ⟨gb134, 0, none⟩ = some (.int .i64 a0_0) := (blk_cell BK134.out 0).trans rfl
        have hcz26_1 : wc.cell? ⟨gb134, 1, none⟩ = some (.int .i64 a0_1) := (blk_cell BK134.out 1).trans rfl
        have hcz26_2 : wc.cell? ⟨gb134, 2, none⟩ = some (.int .i64 a0_2) := (blk_cell BK134.out 2).trans rfl
        have hcz26_3 : wc.cell? ⟨gb134, 3, none⟩ = some (.int .i64 a0_3) := (blk_cell BK134.out 3).trans rfl
        have hcz26_4 : wc.cell? ⟨gb134, 4, none⟩ = some (.int .i64 a0_4) := (blk_cell BK134.out 4).trans rfl
        have hfz26_0 := blk_frozen BK134.out 0
        have hfz26_1 := blk_frozen BK134.out 1
        have hfz26_2 := blk_frozen BK134.out 2
        have hfz26_3 := blk_frozen BK134.out 3
        have hfz26_4 := blk_frozen BK134.out 4
        go_wp2_with (first | ((with_reducible refine gate_callee (f := 24) rfl ?_); refine goesL_ (some 54) rfl rfl Tryd.func24 (by kernel_rfl) rfl #[.int .i64 a0_0] rfl (by (try simp only [List.map_toArray, List.map_cons, List.map_nil]); first | done | rfl | (simp only [List.length_drop, List.length_take]; rfl)) ?_; (with_reducible refine (caponierref02_Top.calls kj18 a0_0 t139 _ A25.out).mono ?_); rintro e w' ⟨rfl, ⟨nd, rfl⟩⟩; refine ⟨_, rfl, ?_⟩))
        go_ret2
        exact ⟨by first | rfl | (simp [errW_none, errW_some] <;> rfl) | (simp [*, errW_none, errW_some] <;> rfl), by repeat (first | (with_reducible first | exact HB.out | apply below_alloc | apply pw_below_drewN | apply below_drew1 | refine below_set ?_ GE134.out) | exact HB.out)⟩
       ·rw [if_neg c24] at H
        have c24b0 : (t136.toList == ([82] : List UInt8)) = false := beq_eq_false_iff_ne.mpr c24
        have c24b1 : (t136.toList != ([82] : List UInt8)) = true := bne_iff_ne.mpr c24
        by_cases c27 : t136.toList = ([73] : List UInt8)
        ·rw [if_pos c27] at H
         have c27b0 : (t136.toList == ([73] : List UInt8)) = true := beq_iff_eq.mpr c27
         have c27b1 : (t136.toList != ([73] : List UInt8)) = false := bne_eq_false_iff_eq.mpr c27
         clear c27
         replace H := Option.bind_eq_some_iff.mp H
         obtain ⟨t140, A280, H⟩ := H
         replace H : ((caponierref02_Shift.f a0_0).bind fun t141 => (if t141 = true then ((caponierref02_Top.f kj18 a0_0).bind fun t142 => (some ((IntKind.u64.wrap ((IntKind.u64.wrap (x5_18 + t140)) + (IntKind.u64.wrap (t142 * 33554432)))) % 4294967296, 0))) else (some ((IntKind.u64.wrap (x5_18 + t140)) % 4294967296, 0)))) = some (r1, r2) := H
         have A28 := Aside0.mk A280
         clear A280
         replace H := Option.bind_eq_some_iff.mp H
         obtain ⟨t141, A290, H⟩ := H
         replace H : (if t141 = true then ((caponierref02_Top.f kj18 a0_0).bind fun t142 => (some ((IntKind.u64.wrap ((IntKind.u64.wrap (x5_18 + t140)) + (IntKind.u64.wrap (t142 * 33554432)))) % 4294967296, 0))) else (some ((IntKind.u64.wrap (x5_18 + t140)) % 4294967296, 0))) = some (r1, r2) := H
         have A29 := Aside0.mk A290
         clear A290
         by_cases c30 : t141 = true
         ·subst c30
          have H1 : ((caponierref02_Top.f kj18 a0_0).bind fun t142 => (some ((IntKind.u64.wrap ((IntKind.u64.wrap (x5_18 + t140)) + (IntKind.u64.wrap (t142 * 33554432)))) % 4294967296, 0))) = some (r1, r2) := by rw [if_pos rfl] at H; exact H
          clear H
          have H := H1
          clear H1
          replace H := Option.bind_eq_some_iff.mp H
          obtain ⟨t142, A310, H⟩ := H
          replace H : (some ((IntKind.u64.wrap ((IntKind.u64.wrap (x5_18 + t140)) + (IntKind.u64.wrap (t142 * 33554432)))) % 4294967296, 0)) = some (r1, r2) := H
          have A31 := Aside0.mk A310
          clear A310
          simp only [Option.some.injEq, Prod.mk.injEq] at H
          obtain ⟨rfl, rfl⟩ := H
          have hcz32_0 : wc.cell? ⟨gb134, 0, none⟩ = some (.int .i64 a0_0) := (blk_cell BK134.out 0).trans rfl
          have hcz32_1 : wc.cell? ⟨gb134, 1, none⟩ = some (.int .i64 a0_1) := (blk_cell BK134.out 1).trans rfl
          have hcz32_2 : wc.cell? ⟨gb134, 2, none⟩ = some (.int .i64 a0_2) := (blk_cell BK134.out 2).trans rfl
          have hcz32_3 : wc.cell? ⟨gb134, 3, none⟩ = some (.int .i64 a0_3) := (blk_cell BK134.out 3).trans rfl
          have hcz32_4 : wc.cell? ⟨gb134, 4, none⟩ = some (.int .i64 a0_4) := (blk_cell BK134.out 4).trans rfl
          have hfz32_0 := blk_frozen BK134.out 0
          have hfz32_1 := blk_frozen BK134.out 1
          have hfz32_2 := blk_frozen BK134.out 2
          have hfz32_3 := blk_frozen BK134.out 3
          have hfz32_4 := blk_frozen BK134.out 4
          go_wp2_with (first | ((with_reducible refine gate_callee (f := 25) rfl ?_); refine goesL_ (some 61) rfl rfl Tryd.func25 (by kernel_rfl) rfl #[.int .i64 a0_4, .int .i64 0, .int .i64 12, .int .i64 20] rfl (by (try simp only [List.map_toArray, List.map_cons, List.map_nil]); first | done | rfl | (simp only [List.length_drop, List.length_take]; rfl)) ?_; (with_reducible refine (caponierref02_bit.calls kj18 a0_4 0 12 20 t140 _ A28.out).mono ?_); rintro e w' ⟨rfl, ⟨nd, rfl⟩⟩; refine ⟨_, rfl, ?_⟩) | ((with_reducible refine gate_callee (f := 26) rfl ?_); refine goesL_ (some 65) rfl rfl Tryd.func26 (by kernel_rfl) rfl #[.int .i64 a0_0] rfl (by (try simp only [List.map_toArray, List.map_cons, List.map_nil]); first | done | rfl | (simp only [List.length_drop, List.length_take]; rfl)) ?_; (with_reducible refine (caponierref02_Shift.calls a0_0 true _ A29.out).mono ?_); rintro e w' ⟨rfl, ⟨nd, rfl⟩⟩; refine ⟨_, rfl, ?_⟩) | ((with_reducible refine gate_callee (f := 24) rfl ?_); refine goesL_ (some 69) rfl rfl Tryd.func24 (by kernel_rfl) rfl #[.int .i64 a0_0] rfl (by (try simp only [List.map_toArray, List.map_cons, List.map_nil]); first | done | rfl | (simp only [List.length_drop, List.length_take]; rfl)) ?_; (with_reducible refine (caponierref02_Top.calls kj18 a0_0 t142 _ A31.out).mono ?_); rintro e w' ⟨rfl, ⟨nd, rfl⟩⟩; refine ⟨_, rfl, ?_⟩))
          go_ret2
          exact ⟨by first | rfl | (simp [errW_none, errW_some] <;> rfl) | (simp [*, errW_none, errW_some] <;> rfl), by repeat (first | (with_reducible first | exact HB.out | apply below_alloc | apply pw_below_drewN | apply below_drew1 | refine below_set ?_ GE134.out) | exact HB.out)⟩
         ·replace c30 := Bool.eq_false_iff.mpr c30
          subst c30
          have H1 : (some ((IntKind.u64.wrap (x5_18 + t140)) % 4294967296, 0)) = some (r1, r2) := by rw [if_neg (show ¬ (false = true) by decide)] at H; exact H
          clear H
          have H := H1
          clear H1
          simp only [Option.some.injEq, Prod.mk.injEq] at H
          obtain ⟨rfl, rfl⟩ := H
          have hcz33_0 : wc.cell? ⟨gb134, 0, none⟩ = some (.int .i64 a0_0) := (blk_cell BK134.out 0).trans rfl
          have hcz33_1 : wc.cell? ⟨gb134, 1, none⟩ = some (.int .i64 a0_1) := (blk_cell BK134.out 1).trans rfl
          have hcz33_2 : wc.cell? ⟨gb134, 2, none⟩ = some (.int .i64 a0_2) := (blk_cell BK134.out 2).trans rfl
          have hcz33_3 : wc.cell? ⟨gb134, 3, none⟩ = some (.int .i64 a0_3) := (blk_cell BK134.out 3).trans rfl
          have hcz33_4 : wc.cell? ⟨gb134, 4, none⟩ = some (.int .i64 a0_4) := (blk_cell BK134.out 4).trans rfl
          have hfz33_0 := blk_frozen BK134.out 0
          have hfz33_1 := blk_frozen BK134.out 1
          have hfz33_2 := blk_frozen BK134.out 2
          have hfz33_3 := blk_frozen BK134.out 3
          have hfz33_4 := blk_frozen BK134.out 4
          go_wp2_with (first | ((with_reducible refine gate_callee (f := 25) rfl ?_); refine goesL_ (some 61) rfl rfl Tryd.func25 (by kernel_rfl) rfl #[.int .i64 a0_4, .int .i64 0, .int .i64 12, .int .i64 20] rfl (by (try simp only [List.map_toArray, List.map_cons, List.map_nil]); first | done | rfl | (simp only [List.length_drop, List.length_take]; rfl)) ?_; (with_reducible refine (caponierref02_bit.calls kj18 a0_4 0 12 20 t140 _ A28.out).mono ?_); rintro e w' ⟨rfl, ⟨nd, rfl⟩⟩; refine ⟨_, rfl, ?_⟩) | ((with_reducible refine gate_callee (f := 26) rfl ?_); refine goesL_ (some 65) rfl rfl Tryd.func26 (by kernel_rfl) rfl #[.int .i64 a0_0] rfl (by (try simp only [List.map_toArray, List.map_cons, List.map_nil]); first | done | rfl | (simp only [List.length_drop, List.length_take]; rfl)) ?_; (with_reducible refine (caponierref02_Shift.calls a0_0 false _ A29.out).mono ?_); rintro e w' ⟨rfl, ⟨nd, rfl⟩⟩; refine ⟨_, rfl, ?_⟩))
          go_ret2
          exact ⟨by first | rfl | (simp [errW_none, errW_some] <;> rfl) | (simp [*, errW_none, errW_some] <;> rfl), by repeat (first | (with_reducible first | exact HB.out | apply below_alloc | apply pw_below_drewN | apply below_drew1 | refine below_set ?_ GE134.out) | exact HB.out)⟩
        ·rw [if_neg c27] at H
         have c27b0 : (t136.toList == ([73] : List UInt8)) = false := beq_eq_false_iff_ne.mpr c27
         have c27b1 : (t136.toList != ([73] : List UInt8)) = true := bne_iff_ne.mpr c27
         by_cases c34 : t136.toList = ([83] : List UInt8)
         ·rw [if_pos c34] at H
          have c34b0 : (t136.toList == ([83] : List UInt8)) = true := beq_iff_eq.mpr c34
          have c34b1 : (t136.toList != ([83] : List UInt8)) = false := bne_eq_false_iff_eq.mpr c34
          clear c34
          replace H := Option.bind_eq_some_iff.mp H
          obtain ⟨t143, A350, H⟩ := H
          replace H : ((caponierref02_bit.f kj18 a0_4 5 7 25).bind fun t144 => (some ((IntKind.u64.wrap ((IntKind.u64.wrap (x5_18 + t143)) + t144)) % 4294967296, 0))) = some (r1, r2) := H
          have A35 := Aside0.mk A350
          clear A350
          replace H := Option.bind_eq_some_iff.mp H
          obtain ⟨t144, A360, H⟩ := H
          replace H : (some ((IntKind.u64.wrap ((IntKind.u64.wrap (x5_18 + t143)) + t144)) % 4294967296, 0)) = some (r1, r2) := H
          have A36 := Aside0.mk A360
          clear A360
          simp only [Option.some.injEq, Prod.mk.injEq] at H
          obtain ⟨rfl, rfl⟩ := H
          have hcz37_0 : wc.cell? ⟨gb134, 0, none⟩ = some (.int .i64 a0_0) := (blk_cell BK134.out 0).trans rfl
          have hcz37_1 : wc.cell? ⟨gb134, 1, none⟩ = some (.int .i64 a0_1) := (blk_cell BK134.out 1).trans rfl
          have hcz37_2 : wc.cell? ⟨gb134, 2, none⟩ = some (.int .i64 a0_2) := (blk_cell BK134.out 2).trans rfl
          have hcz37_3 : wc.cell? ⟨gb134, 3, none⟩ = some (.int .i64 a0_3) := (blk_cell BK134.out 3).trans rfl
          have hcz37_4 : wc.cell? ⟨gb134, 4, none⟩ = some (.int .i64 a0_4) := (blk_cell BK134.out 4).trans rfl
          have hfz37_0 := blk_frozen BK134.out 0
          have hfz37_1 := blk_frozen BK134.out 1
          have hfz37_2 := blk_frozen BK134.out 2
          have hfz37_3 := blk_frozen BK134.out 3
          have hfz37_4 := blk_frozen BK134.out 4
          go_wp2_with (first | ((with_reducible refine gate_callee (f := 25) rfl ?_); refine goesL_ (some 76) rfl rfl Tryd.func25 (by kernel_rfl) rfl #[.int .i64 a0_4, .int .i64 0, .int .i64 5, .int .i64 7] rfl (by (try simp only [List.map_toArray, List.map_cons, List.map_nil]); first | done | rfl | (simp only [List.length_drop, List.length_take]; rfl)) ?_; (with_reducible refine (caponierref02_bit.calls kj18 a0_4 0 5 7 t143 _ A35.out).mono ?_); rintro e w' ⟨rfl, ⟨nd, rfl⟩⟩; refine ⟨_, rfl, ?_⟩) | ((with_reducible refine gate_callee (f := 25) rfl ?_); refine goesL_ (some 79) rfl rfl Tryd.func25 (by kernel_rfl) rfl #[.int .i64 a0_4, .int .i64 5, .int .i64 7, .int .i64 25] rfl (by (try simp only [List.map_toArray, List.map_cons, List.map_nil]); first | done | rfl | (simp only [List.length_drop, List.length_take]; rfl)) ?_; (with_reducible refine (caponierref02_bit.calls kj18 a0_4 5 7 25 t144 _ A36.out).mono ?_); rintro e w' ⟨rfl, ⟨nd, rfl⟩⟩; refine ⟨_, rfl, ?_⟩))
          go_ret2
          exact ⟨by first | rfl | (simp [errW_none, errW_some] <;> rfl) | (simp [*, errW_none, errW_some] <;> rfl), by repeat (first | (with_reducible first | exact HB.out | apply below_alloc | apply pw_below_drewN | apply below_drew1 | refine below_set ?_ GE134.out) | exact HB.out)⟩
         ·rw [if_neg c34] at H
          have c34b0 : (t136.toList == ([83] : List UInt8)) = false := beq_eq_false_iff_ne.mpr c34
          have c34b1 : (t136.toList != ([83] : List UInt8)) = true := bne_iff_ne.mpr c34
          by_cases c38 : t136.toList = ([66] : List UInt8)
          ·rw [if_pos c38] at H
           have c38b0 : (t136.toList == ([66] : List UInt8)) = true := beq_iff_eq.mpr c38
           have c38b1 : (t136.toList != ([66] : List UInt8)) = false := bne_eq_false_iff_eq.mpr c38
           clear c38
           replace H := Option.bind_eq_some_iff.mp H
           obtain ⟨t145, A390, H⟩ := H
           replace H : ((caponierref02_bit.f kj18 a0_4 5 6 25).bind fun t146 => ((caponierref02_bit.f kj18 a0_4 11 1 7).bind fun t147 => ((caponierref02_bit.f kj18 a0_4 12 1 31).bind fun t148 => (some ((IntKind.u64.wrap ((IntKind.u64.wrap ((IntKind.u64.wrap ((IntKind.u64.wrap (x5_18 + t145)) + t146)) + t147)) + t148)) % 4294967296, 0))))) = some (r1, r2) := H
           have A39 := Aside0.mk A390
           clear A390
           replace H := Option.bind_eq_some_iff.mp H
           obtain ⟨t146, A400, H⟩ := H
           replace H : ((caponierref02_bit.f kj18 a0_4 11 1 7).bind fun t147 => ((caponierref02_bit.f kj18 a0_4 12 1 31).bind fun t148 => (some ((IntKind.u64.wrap ((IntKind.u64.wrap ((IntKind.u64.wrap ((IntKind.u64.wrap (x5_18 + t145)) + t146)) + t147)) + t148)) % 4294967296, 0)))) = some (r1, r2) := H
           have A40 := Aside0.mk A400
           clear A400
           replace H := Option.bind_eq_some_iff.mp H
           obtain ⟨t147, A410, H⟩ := H
           replace H : ((caponierref02_bit.f kj18 a0_4 12 1 31).bind fun t148 => (some ((IntKind.u64.wrap ((IntKind.u64.wrap ((IntKind.u64.wrap ((IntKind.u64.wrap (x5_18 + t145)) + t146)) + t147)) + t148)) % 4294967296, 0))) = some (r1, r2) := H
           have A41 := Aside0.mk A410
           clear A410
           replace H := Option.bind_eq_some_iff.mp H
           obtain ⟨t148, A420, H⟩ := H
           replace H : (some ((IntKind.u64.wrap ((IntKind.u64.wrap ((IntKind.u64.wrap ((IntKind.u64.wrap (x5_18 + t145)) + t146)) + t147)) + t148)) % 4294967296, 0)) = some (r1, r2) := H
           have A42 := Aside0.mk A420
           clear A420
           simp only [Option.some.injEq, Prod.mk.injEq] at H
           obtain ⟨rfl, rfl⟩ := H
           have hcz43_0 : wc.cell? ⟨gb134, 0, none⟩ = some (.int .i64 a0_0) := (blk_cell BK134.out 0).trans rfl
           have hcz43_1 : wc.cell? ⟨gb134, 1, none⟩ = some (.int .i64 a0_1) := (blk_cell BK134.out 1).trans rfl
           have hcz43_2 : wc.cell? ⟨gb134, 2, none⟩ = some (.int .i64 a0_2) := (blk_cell BK134.out 2).trans rfl
           have hcz43_3 : wc.cell? ⟨gb134, 3, none⟩ = some (.int .i64 a0_3) := (blk_cell BK134.out 3).trans rfl
           have hcz43_4 : wc.cell? ⟨gb134, 4, none⟩ = some (.int .i64 a0_4) := (blk_cell BK134.out 4).trans rfl
           have hfz43_0 := blk_frozen BK134.out 0
           have hfz43_1 := blk_frozen BK134.out 1
           have hfz43_2 := blk_frozen BK134.out 2
           have hfz43_3 := blk_frozen BK134.out 3
           have hfz43_4 := blk_frozen BK134.out 4
           go_wp2_with (first | ((with_reducible refine gate_callee (f := 25) rfl ?_); refine goesL_ (some 85) rfl rfl Tryd.func25 (by kernel_rfl) rfl #[.int .i64 a0_4, .int .i64 1, .int .i64 4, .int .i64 8] rfl (by (try simp only [List.map_toArray, List.map_cons, List.map_nil]); first | done | rfl | (simp only [List.length_drop, List.length_take]; rfl)) ?_; (with_reducible refine (caponierref02_bit.calls kj18 a0_4 1 4 8 t145 _ A39.out).mono ?_); rintro e w' ⟨rfl, ⟨nd, rfl⟩⟩; refine ⟨_, rfl, ?_⟩) | ((with_reducible refine gate_callee (f := 25) rfl ?_); refine goesL_ (some 88) rfl rfl Tryd.func25 (by kernel_rfl) rfl #[.int .i64 a0_4, .int .i64 5, .int .i64 6, .int .i64 25] rfl (by (try simp only [List.map_toArray, List.map_cons, List.map_nil]); first | done | rfl | (simp only [List.length_drop, List.length_take]; rfl)) ?_; (with_reducible refine (caponierref02_bit.calls kj18 a0_4 5 6 25 t146 _ A40.out).mono ?_); rintro e w' ⟨rfl, ⟨nd, rfl⟩⟩; refine ⟨_, rfl, ?_⟩) | ((with_reducible refine gate_callee (f := 25) rfl ?_); refine goesL_ (some 91) rfl rfl Tryd.func25 (by kernel_rfl) rfl #[.int .i64 a0_4, .int .i64 11, .int .i64 1, .int .i64 7] rfl (by (try simp only [List.map_toArray, List.map_cons, List.map_nil]); first | done | rfl | (simp only [List.length_drop, List.length_take]; rfl)) ?_; (with_reducible refine (caponierref02_bit.calls kj18 a0_4 11 1 7 t147 _ A41.out).mono ?_); rintro e w' ⟨rfl, ⟨nd, rfl⟩⟩; refine ⟨_, rfl, ?_⟩) | ((with_reducible refine gate_callee (f := 25) rfl ?_); refine goesL_ (some 94) rfl rfl Tryd.func25 (by kernel_rfl) rfl #[.int .i64 a0_4, .int .i64 12, .int .i64 1, .int .i64 31] rfl (by (try simp only [List.map_toArray, List.map_cons, List.map_nil]); first | done | rfl | (simp only [List.length_drop, List.length_take]; rfl)) ?_; (with_reducible refine (caponierref02_bit.calls kj18 a0_4 12 1 31 t148 _ A42.out).mono ?_); rintro e w' ⟨rfl, ⟨nd, rfl⟩⟩; refine ⟨_, rfl, ?_⟩))
           go_ret2
           exact ⟨by first | rfl | (simp [errW_none, errW_some] <;> rfl) | (simp [*, errW_none, errW_some] <;> rfl), by repeat (first | (with_reducible first | exact HB.out | apply below_alloc | apply pw_below_drewN | apply below_drew1 | refine below_set ?_ GE134.out) | exact HB.out)⟩
          ·rw [if_neg c38] at H
           have c38b0 : (t136.toList == ([66] : List UInt8)) = false := beq_eq_false_iff_ne.mpr c38
           have c38b1 : (t136.toList != ([66] : List UInt8)) = true := bne_iff_ne.mpr c38
           by_cases c44 : t136.toList = ([85] : List UInt8)
           ·rw [if_pos c44] at H
            have c44b0 : (t136.toList == ([85] : List UInt8)) = true := beq_iff_eq.mpr c44
            have c44b1 : (t136.toList != ([85] : List UInt8)) = false := bne_eq_false_iff_eq.mpr c44
            clear c44
            replace H := Option.bind_eq_some_iff.mp H
            obtain ⟨t149, A450, H⟩ := H
            replace H : (some ((IntKind.u64.wrap (x5_18 + t149)) % 4294967296, 0)) = some (r1, r2) := H
            have A45 := Aside0.mk A450
            clear A450
            simp only [Option.some.injEq, Prod.mk.injEq] at H
            obtain ⟨rfl, rfl⟩ := H
            have hcz46_0 : wc.cell? ⟨gb134, 0, none⟩ = some (.int .i64 a0_0) := (blk_cell BK134.out 0).trans rfl
            have hcz46_1 : wc.cell? ⟨gb134, 1, none⟩ = some (.int .i64 a0_1) := (blk_cell BK134.out 1).trans rfl
            have hcz46_2 : wc.cell? ⟨gb134, 2, none⟩ = some (.int .i64 a0_2) := (blk_cell BK134.out 2).trans rfl
            have hcz46_3 : wc.cell? ⟨gb134, 3, none⟩ = some (.int .i64 a0_3) := (blk_cell BK134.out 3).trans rfl
            have hcz46_4 : wc.cell? ⟨gb134, 4, none⟩ = some (.int .i64 a0_4) := (blk_cell BK134.out 4).trans rfl
            have hfz46_0 := blk_frozen BK134.out 0
            have hfz46_1 := blk_frozen BK134.out 1
            have hfz46_2 := blk_frozen BK134.out 2
            have hfz46_3 := blk_frozen BK134.out 3
            have hfz46_4 := blk_frozen BK134.out 4
            go_wp2_with (first | ((with_reducible refine gate_callee (f := 25) rfl ?_); refine goesL_ (some 100) rfl rfl Tryd.func25 (by kernel_rfl) rfl #[.int .i64 a0_4, .int .i64 12, .int .i64 20, .int .i64 12] rfl (by (try simp only [List.map_toArray, List.map_cons, List.map_nil]); first | done | rfl | (simp only [List.length_drop, List.length_take]; rfl)) ?_; (with_reducible refine (caponierref02_bit.calls kj18 a0_4 12 20 12 t149 _ A45.out).mono ?_); rintro e w' ⟨rfl, ⟨nd, rfl⟩⟩; refine ⟨_, rfl, ?_⟩))
            go_ret2
            exact ⟨by first | rfl | (simp [errW_none, errW_some] <;> rfl) | (simp [*, errW_none, errW_some] <;> rfl), by repeat (first | (with_reducible first | exact HB.out | apply below_alloc | apply pw_below_drewN | apply below_drew1 | refine below_set ?_ GE134.out) | exact HB.out)⟩
           ·rw [if_neg c44] at H
            have c44b0 : (t136.toList == ([85] : List UInt8)) = false := beq_eq_false_iff_ne.mpr c44
            have c44b1 : (t136.toList != ([85] : List UInt8)) = true := bne_iff_ne.mpr c44
            by_cases c47 : t136.toList = ([74] : List UInt8)
            ·rw [if_pos c47] at H
             have c47b0 : (t136.toList == ([74] : List UInt8)) = true := beq_iff_eq.mpr c47
             have c47b1 : (t136.toList != ([74] : List UInt8)) = false := bne_eq_false_iff_eq.mpr c47
             clear c47
             replace H := Option.bind_eq_some_iff.mp H
             obtain ⟨t150, A480, H⟩ := H
             replace H : ((caponierref02_bit.f kj18 a0_4 11 1 20).bind fun t151 => ((caponierref02_bit.f kj18 a0_4 12 8 12).bind fun t152 => ((caponierref02_bit.f kj18 a0_4 20 1 31).bind fun t153 => (some ((IntKind.u64.wrap ((IntKind.u64.wrap ((IntKind.u64.wrap ((IntKind.u64.wrap (x5_18 + t150)) + t151)) + t152)) + t153)) % 4294967296, 0))))) = some (r1, r2) := H
             have A48 := Aside0.mk A480
             clear A480
             replace H := Option.bind_eq_some_iff.mp H
             obtain ⟨t151, A490, H⟩ := H
             replace H : ((caponierref02_bit.f kj18 a0_4 12 8 12).bind fun t152 => ((caponierref02_bit.f kj18 a0_4 20 1 31).bind fun t153 => (some ((IntKind.u64.wrap ((IntKind.u64.wrap ((IntKind.u64.wrap ((IntKind.u64.wrap (x5_18 + t150)) + t151)) + t152)) + t153)) % 4294967296, 0)))) = some (r1, r2) := H
             have A49 := Aside0.mk A490
             clear A490
             replace H := Option.bind_eq_some_iff.mp H
             obtain ⟨t152, A500, H⟩ := H
             replace H : ((caponierref02_bit.f kj18 a0_4 20 1 31).bind fun t153 => (some ((IntKind.u64.wrap ((IntKind.u64.wrap ((IntKind.u64.wrap ((IntKind.u64.wrap (x5_18 + t150)) + t151)) + t152)) + t153)) % 4294967296, 0))) = some (r1, r2) := H
             have A50 := Aside0.mk A500
             clear A500
             replace H := Option.bind_eq_some_iff.mp H
             obtain ⟨t153, A510, H⟩ := H
             replace H : (some ((IntKind.u64.wrap ((IntKind.u64.wrap ((IntKind.u64.wrap ((IntKind.u64.wrap (x5_18 + t150)) + t151)) + t152)) + t153)) % 4294967296, 0)) = some (r1, r2) := H
             have A51 := Aside0.mk A510
             clear A510
             simp only [Option.some.injEq, Prod.mk.injEq] at H
             obtain ⟨rfl, rfl⟩ := H
             have hcz52_0 : wc.cell? ⟨gb134, 0, none⟩ = some (.int .i64 a0_0) := (blk_cell BK134.out 0).trans rfl
             have hcz52_1 : wc.cell? ⟨gb134, 1, none⟩ = some (.int .i64 a0_1) := (blk_cell BK134.out 1).trans rfl
             have hcz52_2 : wc.cell? ⟨gb134, 2, none⟩ = some (.int .i64 a0_2) := (blk_cell BK134.out 2).trans rfl
             have hcz52_3 : wc.cell? ⟨gb134, 3, none⟩ = some (.int .i64 a0_3) := (blk_cell BK134.out 3).trans rfl
             have hcz52_4 : wc.cell? ⟨gb134, 4, none⟩ = some (.int .i64 a0_4) := (blk_cell BK134.out 4).trans rfl
             have hfz52_0 := blk_frozen BK134.out 0
             have hfz52_1 := blk_frozen BK134.out 1
             have hfz52_2 := blk_frozen BK134.out 2
             have hfz52_3 := blk_frozen BK134.out 3
             have hfz52_4 := blk_frozen BK134.out 4
             go_wp2_with (first | ((with_reducible refine gate_callee (f := 25) rfl ?_); refine goesL_ (some 106) rfl rfl Tryd.func25 (by kernel_rfl) rfl #[.int .i64 a0_4, .int .i64 1, .int .i64 10, .int .i64 21] rfl (by (try simp only [List.map_toArray, List.map_cons, List.map_nil]); first | done | rfl | (simp only [List.length_drop, List.length_take]; rfl)) ?_; (with_reducible refine (caponierref02_bit.calls kj18 a0_4 1 10 21 t150 _ A48.out).mono ?_); rintro e w' ⟨rfl, ⟨nd, rfl⟩⟩; refine ⟨_, rfl, ?_⟩) | ((with_reducible refine gate_callee (f := 25) rfl ?_); refine goesL_ (some 109) rfl rfl Tryd.func25 (by kernel_rfl) rfl #[.int .i64 a0_4, .int .i64 11, .int .i64 1, .int .i64 20] rfl (by (try simp only [List.map_toArray, List.map_cons, List.map_nil]); first | done | rfl | (simp only [List.length_drop, List.length_take]; rfl)) ?_; (with_reducible refine (caponierref02_bit.calls kj18 a0_4 11 1 20 t151 _ A49.out).mono ?_); rintro e w' ⟨rfl, ⟨nd, rfl⟩⟩; refine ⟨_, rfl, ?_⟩) | ((with_reducible refine gate_callee (f := 25) rfl ?_); refine goesL_ (some 112) rfl rfl Tryd.func25 (by kernel_rfl) rfl #[.int .i64 a0_4, .int .i64 12, .int .i64 8, .int .i64 12] rfl (by (try simp only [List.map_toArray, List.map_cons, List.map_nil]); first | done | rfl | (simp only [List.length_drop, List.length_take]; rfl)) ?_; (with_reducible refine (caponierref02_bit.calls kj18 a0_4 12 8 12 t152 _ A50.out).mono ?_); rintro e w' ⟨rfl, ⟨nd, rfl⟩⟩; refine ⟨_, rfl, ?_⟩) | ((with_reducible refine gate_callee (f := 25) rfl ?_); refine goesL_ (some 115) rfl rfl Tryd.func25 (by kernel_rfl) rfl #[.int .i64 a0_4, .int .i64 20, .int .i64 1, .int .i64 31] rfl (by (try simp only [List.map_toArray, List.map_cons, List.map_nil]); first | done | rfl | (simp only [List.length_drop, List.length_take]; rfl)) ?_; (with_reducible refine (caponierref02_bit.calls kj18 a0_4 20 1 31 t153 _ A51.out).mono ?_); rintro e w' ⟨rfl, ⟨nd, rfl⟩⟩; refine ⟨_, rfl, ?_⟩))
             go_ret2
             exact ⟨by first | rfl | (simp [errW_none, errW_some] <;> rfl) | (simp [*, errW_none, errW_some] <;> rfl), by repeat (first | (with_reducible first | exact HB.out | apply below_alloc | apply pw_below_drewN | apply below_drew1 | refine below_set ?_ GE134.out) | exact HB.out)⟩
            ·rw [if_neg c47] at H
             have c47b0 : (t136.toList == ([74] : List UInt8)) = false := beq_eq_false_iff_ne.mpr c47
             have c47b1 : (t136.toList != ([74] : List UInt8)) = true := bne_iff_ne.mpr c47
             simp only [Option.some.injEq, Prod.mk.injEq] at H
             obtain ⟨rfl, rfl⟩ := H
             have hcz53_0 : wc.cell? ⟨gb134, 0, none⟩ = some (.int .i64 a0_0) := (blk_cell BK134.out 0).trans rfl
             have hcz53_1 : wc.cell? ⟨gb134, 1, none⟩ = some (.int .i64 a0_1) := (blk_cell BK134.out 1).trans rfl
             have hcz53_2 : wc.cell? ⟨gb134, 2, none⟩ = some (.int .i64 a0_2) := (blk_cell BK134.out 2).trans rfl
             have hcz53_3 : wc.cell? ⟨gb134, 3, none⟩ = some (.int .i64 a0_3) := (blk_cell BK134.out 3).trans rfl
             have hcz53_4 : wc.cell? ⟨gb134, 4, none⟩ = some (.int .i64 a0_4) := (blk_cell BK134.out 4).trans rfl
             have hfz53_0 := blk_frozen BK134.out 0
             have hfz53_1 := blk_frozen BK134.out 1
             have hfz53_2 := blk_frozen BK134.out 2
             have hfz53_3 := blk_frozen BK134.out 3
             have hfz53_4 := blk_frozen BK134.out 4
             go_wp2
             go_ret2
             exact ⟨by first | rfl | (simp [errW_none, errW_some] <;> rfl) | (simp [*, errW_none, errW_some] <;> rfl), by repeat (first | (with_reducible first | exact HB.out | apply below_alloc | apply pw_below_drewN | apply below_drew1 | refine below_set ?_ GE134.out) | exact HB.out)⟩
 ·replace c3 := Bool.eq_false_iff.mpr c3
  subst c3
  have H1 : (some (0, 1)) = some (r1, r2) := by rw [if_neg (show ¬ (false = true) by decide)] at H; exact H
  clear H
  have H := H1
  clear H1
  simp only [Option.some.injEq, Prod.mk.injEq] at H
  obtain ⟨rfl, rfl⟩ := H
  go_enter Tryd.func11, Tryd.ntmps11
  go_wp2_with (first | ((with_reducible refine gate_dst (N := 1) rfl ?_); refine box_event ?hg (N := 1) ?hd (cs := #[.int .i64 a0_0, .int .i64 a0_1, .int .i64 a0_2, .int .i64 a0_3, .int .i64 a0_4]) (t := 23) ?hr ?_; (case hd => rfl); (case hg => rfl); (case hr => first | (go_simp; done) | (go_simp; rfl)); intro gb134 hg w54 hbox hb; have n0_ := Aside0.mk (below_step (by repeat (first | (with_reducible first | exact HB.out | apply below_alloc | apply pw_below_drewN | apply below_drew1) | exact HB.out)) hb); have n1_ := Aside0.mk (hbox); have n2_ := Aside0.mk ((by rw [hg]; exact (below_size (by repeat (first | (with_reducible first | exact HB.out | apply below_alloc | apply pw_below_drewN | apply below_drew1) | exact HB.out))) : w.heap.size ≤ gb134)); have n3_ := Aside0.mk ((by rw [hg]; exact (below_size (by repeat (first | (with_reducible first | exact HB.out | apply below_alloc | apply pw_below_drewN | apply below_drew1) | exact HB.out))) : w.heap.size ≤ gb134)); clear HB; have HB := n0_; have BK134 := n1_; have GW134 := n2_; have GE134 := n3_; clear n0_ n1_ n2_ n3_; clear hb hbox hg; have hcz55_0 : w54.cell? ⟨gb134, 0, none⟩ = some (.int .i64 a0_0) := (blk_cell BK134.out 0).trans rfl; have hcz55_1 : w54.cell? ⟨gb134, 1, none⟩ = some (.int .i64 a0_1) := (blk_cell BK134.out 1).trans rfl; have hcz55_2 : w54.cell? ⟨gb134, 2, none⟩ = some (.int .i64 a0_2) := (blk_cell BK134.out 2).trans rfl; have hcz55_3 : w54.cell? ⟨gb134, 3, none⟩ = some (.int .i64 a0_3) := (blk_cell BK134.out 3).trans rfl; have hcz55_4 : w54.cell? ⟨gb134, 4, none⟩ = some (.int .i64 a0_4) := (blk_cell BK134.out 4).trans rfl; have hfz55_0 := blk_frozen BK134.out 0; have hfz55_1 := blk_frozen BK134.out 1; have hfz55_2 := blk_frozen BK134.out 2; have hfz55_3 := blk_frozen BK134.out 3; have hfz55_4 := blk_frozen BK134.out 4) | ((with_reducible refine gate_callee (f := 13) rfl ?_); refine goesL_ (some 8) rfl rfl Tryd.func13 (by kernel_rfl) rfl #[.agg #[.int .i64 a0_0, .int .i64 a0_1, .int .i64 a0_2, .int .i64 a0_3, .int .i64 a0_4]] rfl (by (try simp only [List.map_toArray, List.map_cons, List.map_nil]); first | done | rfl | (simp only [List.length_drop, List.length_take]; rfl)) ?_; (with_reducible refine (caponierref02_May.calls k a0_0 a0_1 a0_2 a0_3 a0_4 false _ A2.out).mono ?_); rintro e w56 ⟨rfl, hb⟩; refine ⟨_, rfl, ?_⟩; have n0_ := Aside0.mk (blk_below (g := gb134) (o := .cells #[.int .i64 a0_0, .int .i64 a0_1, .int .i64 a0_2, .int .i64 a0_3, .int .i64 a0_4] 23 (0, 0)) (by (with_reducible repeat (first | refine blk_drewN ?_ _ | refine blk_drew ?_ | refine blk_alloc ?_ _)); exact BK134.out) hb); have n1_ := Aside0.mk (below_step (by repeat (first | (with_reducible first | exact HB.out | apply below_alloc | apply pw_below_drewN | apply below_drew1 | refine below_set ?_ GE134.out) | exact HB.out)) hb); clear BK134; clear HB; have BK134 := n0_; have HB := n1_; clear n0_ n1_; (try clear hb); (try clear hb2); (try clear hk); (try clear hi)))
  go_ret2
  exact ⟨by first | rfl | (simp [errW_none, errW_some] <;> rfl) | (simp [*, errW_none, errW_some] <;> rfl), by repeat (first | (with_reducible first | exact HB.out | apply below_alloc | apply pw_below_drewN | apply below_drew1 | refine below_set ?_ GE134.out) | exact HB.out)⟩

/-! ### caponierref02_field: function 42 -/
def caponierref02_field.f (k : Nat) (a0 : Int) (a1 : Int) (a2 : Int) : Option (Int) := (caponierref01_Field.f k (IntKind.u64.wrap (a0)) a1 a2).bind fun bt154 => (some bt154.1)
theorem caponierref02_field.mono : ∀ a0 a1 a2 k, LeO (caponierref02_field.f k a0 a1 a2) (caponierref02_field.f (k + 1) a0 a1 a2) := by
 intro a0 a1 a2 k
 unfold caponierref02_field.f
 repeat' first
   | (with_reducible exact caponierref01_Field.mono _ _ _ _)
   | (with_reducible exact LeO.refl _)
   | (with_reducible exact LeO.none _)
   | (with_reducible refine LeO.ite ?_ ?_)
   | (with_reducible refine LeO.bind ?_ (fun _ => ?_))
   | exact caponierref01_Field.mono _ _ _ _
   | exact LeO.none _
   | refine LeO.ite ?_ ?_
   | refine LeO.bind ?_ (fun _ => ?_)
set_option maxHeartbeats 8000000 in
set_option maxRecDepth 100000 in
theorem caponierref02_field.calls (k : Nat) (a0 : Int) (a1 : Int) (a2 : Int) (r : Int) (w : World) (h : caponierref02_field.f k a0 a1 a2 = some r) :
  Calls Tryd.prog 42 #[.int .u32 a0, .int .i64 a1, .int .i64 a2] w fun e w' => e = .returned (.int .u64 r) ∧ Drawn0 w w' := by
 have H : ((caponierref01_Field.f k (IntKind.u64.wrap (a0)) a1 a2).bind fun bt154 => (some bt154.1)) = some r := h
 clear h
 replace H := Option.bind_eq_some_iff.mp H
 obtain ⟨⟨t154, t155⟩, A40, H⟩ := H
 replace H : (some t154) = some r := H
 have A4 := Aside0.mk A40
 clear A40
 obtain rfl := Option.some.inj H
 go_enter Tryd.func42, Tryd.ntmps42
 go_wp2_with (first | ((with_reducible refine gate_callee (f := 37) rfl ?_); refine goesL_ (some 14) rfl rfl Tryd.func37 (by kernel_rfl) rfl #[.int .u64 (IntKind.u64.wrap (a0)), .int .i64 a1, .int .i64 a2] rfl (by (try simp only [List.map_toArray, List.map_cons, List.map_nil]); first | done | rfl | (simp only [List.length_drop, List.length_take]; rfl)) ?_; (with_reducible refine (caponierref01_Field.calls k (IntKind.u64.wrap (a0)) a1 a2 t154 t155 _ A4.out).mono ?_); rintro e w' ⟨rfl, ⟨nd, rfl⟩⟩; refine ⟨_, rfl, ?_⟩))
 go_ret
 exact ⟨by first | rfl | (simp; done) | (simp [*]; done), by repeat (first | exact Drawn0.refl _ | apply Drawn0.step)⟩

end Go.Proofs.YtbdlhhajblhmiaaDoor.QInsDecodes
