-- Written by a program of this session (handprint.py) out of the translation: Go functions as Lean functions, and that the Go code comes to their answers; the row of the law.
import Derived.Test.YtbdlhhajblhmiaaDoorQInsDecodesx0
import Derived.Test.YtbdlhhajblhmiaaDoorQInsDecodesx2
namespace Go.Proofs.YtbdlhhajblhmiaaDoor.QInsDecodes
open Go.RowKit Go.Proofs.YtbdlhhajblhmiaaDoorW.PrintWords Go.Proofs.YtbdlhhajblhmiaaDoorW.PrintLast Go.Proofs.YtbdlhhajblhmiaaDoorW.PrintMore
attribute [local go_sem] max2_int min2_int max_two min_two max_three min_three max_four min_four   -- for this text's walks alone
set_option linter.unusedVariables false
set_option linter.unusedSimpArgs false

/-! ### caponierref02_May: function 13 -/
mutual
def caponierref02_May.j0 : Nat → ByteArray → Bool → Int → Int → Int → Int → Int → Option (Bool)
 | 0, _, _, _, _, _, _, _ => none
 | k + 1, x3, x39, xa0, xa1, xa2, xa3, xa4 => if x39 = true then (some false) else (if xa1 = 0 then (if xa2 = 0 then (if xa3 = 0 then (caponierref02_May.j1 k x3 false xa0 xa1 xa2 xa3 xa4) else (if x3.toList = ([82] : List UInt8) then (caponierref02_May.j1 k x3 false xa0 xa1 xa2 xa3 xa4) else (if x3.toList = ([83] : List UInt8) then (caponierref02_May.j1 k x3 false xa0 xa1 xa2 xa3 xa4) else (caponierref02_May.j1 k x3 (x3.toList != ([66] : List UInt8)) xa0 xa1 xa2 xa3 xa4)))) else (if x3.toList = ([85] : List UInt8) then (caponierref02_May.j1 k x3 true xa0 xa1 xa2 xa3 xa4) else (if x3.toList = ([74] : List UInt8) then (caponierref02_May.j1 k x3 true xa0 xa1 xa2 xa3 xa4) else (if x3.toList = ([69] : List UInt8) then (caponierref02_May.j1 k x3 true xa0 xa1 xa2 xa3 xa4) else (if xa3 = 0 then (caponierref02_May.j1 k x3 false xa0 xa1 xa2 xa3 xa4) else (if x3.toList = ([82] : List UInt8) then (caponierref02_May.j1 k x3 false xa0 xa1 xa2 xa3 xa4) else (if x3.toList = ([83] : List UInt8) then (caponierref02_May.j1 k x3 false xa0 xa1 xa2 xa3 xa4) else (caponierref02_May.j1 k x3 (x3.toList != ([66] : List UInt8)) xa0 xa1 xa2 xa3 xa4)))))))) else (if x3.toList = ([83] : List UInt8) then (caponierref02_May.j1 k x3 true xa0 xa1 xa2 xa3 xa4) else (if x3.toList = ([66] : List UInt8) then (caponierref02_May.j1 k x3 true xa0 xa1 xa2 xa3 xa4) else (if x3.toList = ([69] : List UInt8) then (caponierref02_May.j1 k x3 true xa0 xa1 xa2 xa3 xa4) else (if xa2 = 0 then (if xa3 = 0 then (caponierref02_May.j1 k x3 false xa0 xa1 xa2 xa3 xa4) else (if x3.toList = ([82] : List UInt8) then (caponierref02_May.j1 k x3 false xa0 xa1 xa2 xa3 xa4) else (caponierref02_May.j1 k x3 (x3.toList != ([66] : List UInt8)) xa0 xa1 xa2 xa3 xa4))) else (if x3.toList = ([85] : List UInt8) then (caponierref02_May.j1 k x3 true xa0 xa1 xa2 xa3 xa4) else (if x3.toList = ([74] : List UInt8) then (caponierref02_May.j1 k x3 true xa0 xa1 xa2 xa3 xa4) else (if xa3 = 0 then (caponierref02_May.j1 k x3 false xa0 xa1 xa2 xa3 xa4) else (if x3.toList = ([82] : List UInt8) then (caponierref02_May.j1 k x3 false xa0 xa1 xa2 xa3 xa4) else (caponierref02_May.j1 k x3 (x3.toList != ([66] : List UInt8)) xa0 xa1 xa2 xa3 xa4))))))))))
def caponierref02_May.j1 : Nat → ByteArray → Bool → Int → Int → Int → Int → Int → Option (Bool)
 | 0, _, _, _, _, _, _, _ => none
 | k + 1, x3, x88, xa0, xa1, xa2, xa3, xa4 => if x88 = true then (some false) else (if x3.toList = ([73] : List UInt8) then (caponierref02_May.j2 k xa4 x3 (x3.toList == ([73] : List UInt8)) xa0 xa1 xa2 xa3 xa4) else (caponierref02_May.j2 k xa4 x3 (x3.toList == ([83] : List UInt8)) xa0 xa1 xa2 xa3 xa4))
def caponierref02_May.j2 : Nat → Int → ByteArray → Bool → Int → Int → Int → Int → Int → Option (Bool)
 | 0, _, _, _, _, _, _, _, _ => none
 | k + 1, x4, x91, x92, xa0, xa1, xa2, xa3, xa4 => if x92 = true then ((caponierref02_Shift.f xa0).bind fun t121 => (if t121 = true then (if x4 ≥ 0 then (some (decide (x4 ≤ 63))) else (some false)) else (if x4 ≥ (-2048) then (some (decide (x4 ≤ 2047))) else (some false)))) else (if x91.toList = ([66] : List UInt8) then (if x4 ≥ (-4096) then (if x4 ≤ 4094 then (some ((Int.tmod x4 2) == 0)) else (some false)) else (some false)) else (if x91.toList = ([85] : List UInt8) then (if x4 ≥ (-2147483648) then (if x4 ≤ 2147483647 then (some ((Int.tmod x4 4096) == 0)) else (some false)) else (some false)) else (if x91.toList = ([74] : List UInt8) then (if x4 ≥ (-1048576) then (if x4 ≤ 1048574 then (some ((Int.tmod x4 2) == 0)) else (some false)) else (some false)) else (some (x4 == 0)))))
end
def caponierref02_May.f (k : Nat) (a0_0 : Int) (a0_1 : Int) (a0_2 : Int) (a0_3 : Int) (a0_4 : Int) : Option (Bool) := (caponierref02_Form.f k a0_0).bind fun t120 => (if t120.toList = ([] : List UInt8) then (caponierref02_May.j0 k t120 true a0_0 a0_1 a0_2 a0_3 a0_4) else (if a0_1 < 0 then (caponierref02_May.j0 k t120 true a0_0 a0_1 a0_2 a0_3 a0_4) else (if a0_1 > 31 then (caponierref02_May.j0 k t120 true a0_0 a0_1 a0_2 a0_3 a0_4) else (if a0_2 < 0 then (caponierref02_May.j0 k t120 true a0_0 a0_1 a0_2 a0_3 a0_4) else (if a0_2 > 31 then (caponierref02_May.j0 k t120 true a0_0 a0_1 a0_2 a0_3 a0_4) else (if a0_3 < 0 then (caponierref02_May.j0 k t120 true a0_0 a0_1 a0_2 a0_3 a0_4) else (caponierref02_May.j0 k t120 (decide (a0_3 > 31)) a0_0 a0_1 a0_2 a0_3 a0_4)))))))
theorem caponierref02_May.mono_l : ∀ k, (∀ y0 y1 y2 y3 y4 y5 y6, LeO (caponierref02_May.j0 k y0 y1 y2 y3 y4 y5 y6) (caponierref02_May.j0 (k + 1) y0 y1 y2 y3 y4 y5 y6)) ∧ (∀ y0 y1 y2 y3 y4 y5 y6, LeO (caponierref02_May.j1 k y0 y1 y2 y3 y4 y5 y6) (caponierref02_May.j1 (k + 1) y0 y1 y2 y3 y4 y5 y6)) ∧ (∀ y0 y1 y2 y3 y4 y5 y6 y7, LeO (caponierref02_May.j2 k y0 y1 y2 y3 y4 y5 y6 y7) (caponierref02_May.j2 (k + 1) y0 y1 y2 y3 y4 y5 y6 y7))
 | 0 => ⟨fun _ _ _ _ _ _ _ r h => by simp [caponierref02_May.j0] at h, fun _ _ _ _ _ _ _ r h => by simp [caponierref02_May.j1] at h, fun _ _ _ _ _ _ _ _ r h => by simp [caponierref02_May.j2] at h⟩
 | k + 1 => by
  obtain ⟨ih0, ih1, ih2⟩ := caponierref02_May.mono_l k
  refine ⟨?_, ?_, ?_⟩
  ·intro y0 y1 y2 y3 y4 y5 y6
   unfold caponierref02_May.j0
   repeat' first
   | (with_reducible exact ih0 _ _ _ _ _ _ _)
   | (with_reducible exact ih1 _ _ _ _ _ _ _)
   | (with_reducible exact ih2 _ _ _ _ _ _ _ _)
   | (with_reducible exact caponierref02_Form.mono _ _)
   | (with_reducible exact LeO.refl _)
   | (with_reducible exact LeO.none _)
   | (with_reducible refine LeO.ite ?_ ?_)
   | (with_reducible refine LeO.bind ?_ (fun _ => ?_))
   | exact ih0 _ _ _ _ _ _ _
   | exact ih1 _ _ _ _ _ _ _
   | exact ih2 _ _ _ _ _ _ _ _
   | exact caponierref02_Form.mono _ _
   | exact LeO.none _
   | refine LeO.ite ?_ ?_
   | refine LeO.bind ?_ (fun _ => ?_)
  ·intro y0 y1 y2 y3 y4 y5 y6
   unfold caponierref02_May.j1
   repeat' first
   | (with_reducible exact ih0 _ _ _ _ _ _ _)
   | (with_reducible exact ih1 _ _ _ _ _ _ _)
   | (with_reducible exact ih2 _ _ _ _ _ _ _ _)
   | (with_reducible exact caponierref02_Form.mono _ _)
   | (with_reducible exact LeO.refl _)
   | (with_reducible exact LeO.none _)
   | (with_reducible refine LeO.ite ?_ ?_)
   | (with_reducible refine LeO.bind ?_ (fun _ => ?_))
   | exact ih0 _ _ _ _ _ _ _
   | exact ih1 _ _ _ _ _ _ _
   | exact ih2 _ _ _ _ _ _ _ _
   | exact caponierref02_Form.mono _ _
   | exact LeO.none _
   | refine LeO.ite ?_ ?_
   | refine LeO.bind ?_ (fun _ => ?_)
  ·intro y0 y1 y2 y3 y4 y5 y6 y7
   unfold caponierref02_May.j2
   repeat' first
   | (with_reducible exact ih0 _ _ _ _ _ _ _)
   | (with_reducible exact ih1 _ _ _ _ _ _ _)
   | (with_reducible exact ih2 _ _ _ _ _ _ _ _)
   | (with_reducible exact caponierref02_Form.mono _ _)
   | (with_reducible exact LeO.refl _)
   | (with_reducible exact LeO.none _)
   | (with_reducible refine LeO.ite ?_ ?_)
   | (with_reducible refine LeO.bind ?_ (fun _ => ?_))
   | exact ih0 _ _ _ _ _ _ _
   | exact ih1 _ _ _ _ _ _ _
   | exact ih2 _ _ _ _ _ _ _ _
   | exact caponierref02_Form.mono _ _
   | exact LeO.none _
   | refine LeO.ite ?_ ?_
   | refine LeO.bind ?_ (fun _ => ?_)
theorem caponierref02_May.mono : ∀ a0 a1 a2 a3 a4 k, LeO (caponierref02_May.f k a0 a1 a2 a3 a4) (caponierref02_May.f (k + 1) a0 a1 a2 a3 a4) := by
 intro a0 a1 a2 a3 a4 k
 obtain ⟨ih0, ih1, ih2⟩ := caponierref02_May.mono_l k
 unfold caponierref02_May.f
 repeat' first
   | (with_reducible exact ih0 _ _ _ _ _ _ _)
   | (with_reducible exact ih1 _ _ _ _ _ _ _)
   | (with_reducible exact ih2 _ _ _ _ _ _ _ _)
   | (with_reducible exact caponierref02_Form.mono _ _)
   | (with_reducible exact LeO.refl _)
   | (with_reducible exact LeO.none _)
   | (with_reducible refine LeO.ite ?_ ?_)
   | (with_reducible refine LeO.bind ?_ (fun _ => ?_))
   | exact ih0 _ _ _ _ _ _ _
   | exact ih1 _ _ _ _ _ _ _
   | exact ih2 _ _ _ _ _ _ _ _
   | exact caponierref02_Form.mono _ _
   | exact LeO.none _
   | refine LeO.ite ?_ ?_
   | refine LeO.bind ?_ (fun _ => ?_)
set_option maxHeartbeats 8000000 in
set_option maxRecDepth 100000 in
theorem caponierref02_May.calls (k : Nat) (a0_0 : Int) (a0_1 : Int) (a0_2 : Int) (a0_3 : Int) (a0_4 : Int) (r : Bool) (w : World) (h : caponierref02_May.f k a0_0 a0_1 a0_2 a0_3 a0_4 = some r) :
  Calls Tryd.prog 13 #[.agg #[.int .i64 a0_0, .int .i64 a0_1, .int .i64 a0_2, .int .i64 a0_3, .int .i64 a0_4]] w fun e w' => e = .returned (.bool r) ∧ Below w.heap.size w w' := by
 have hu23 := Tryd.underlying23
 have HB := Aside0.mk (Below.refl w.heap.size w)
 have H : ((caponierref02_Form.f k a0_0).bind fun t120 => (if t120.toList = ([] : List UInt8) then (caponierref02_May.j0 k t120 true a0_0 a0_1 a0_2 a0_3 a0_4) else (if a0_1 < 0 then (caponierref02_May.j0 k t120 true a0_0 a0_1 a0_2 a0_3 a0_4) else (if a0_1 > 31 then (caponierref02_May.j0 k t120 true a0_0 a0_1 a0_2 a0_3 a0_4) else (if a0_2 < 0 then (caponierref02_May.j0 k t120 true a0_0 a0_1 a0_2 a0_3 a0_4) else (if a0_2 > 31 then (caponierref02_May.j0 k t120 true a0_0 a0_1 a0_2 a0_3 a0_4) else (if a0_3 < 0 then (caponierref02_May.j0 k t120 true a0_0 a0_1 a0_2 a0_3 a0_4) else (caponierref02_May.j0 k t120 (decide (a0_3 > 31)) a0_0 a0_1 a0_2 a0_3 a0_4)))))))) = some r := h
 clear h
 replace H := Option.bind_eq_some_iff.mp H
 obtain ⟨t120, A20, H⟩ := H
 replace H : (if t120.toList = ([] : List UInt8) then (caponierref02_May.j0 k t120 true a0_0 a0_1 a0_2 a0_3 a0_4) else (if a0_1 < 0 then (caponierref02_May.j0 k t120 true a0_0 a0_1 a0_2 a0_3 a0_4) else (if a0_1 > 31 then (caponierref02_May.j0 k t120 true a0_0 a0_1 a0_2 a0_3 a0_4) else (if a0_2 < 0 then (caponierref02_May.j0 k t120 true a0_0 a0_1 a0_2 a0_3 a0_4) else (if a0_2 > 31 then (caponierref02_May.j0 k t120 true a0_0 a0_1 a0_2 a0_3 a0_4) else (if a0_3 < 0 then (caponierref02_May.j0 k t120 true a0_0 a0_1 a0_2 a0_3 a0_4) else (caponierref02_May.j0 k t120 (decide (a0_3 > 31)) a0_0 a0_1 a0_2 a0_3 a0_4))))))) = some r := H
 have A2 := Aside0.mk A20
 clear A20
 have HC3 := Aside0.mk H
 clear H
 go_enter Tryd.func13, Tryd.ntmps13
 go_upto_region 2 with (first | ((with_reducible refine gate_dst (N := 1) rfl ?_); refine box_event ?hg (N := 1) ?hd (cs := #[.int .i64 a0_0, .int .i64 a0_1, .int .i64 a0_2, .int .i64 a0_3, .int .i64 a0_4]) (t := 23) ?hr ?_; (case hd => rfl); (case hg => rfl); (case hr => first | (go_simp; done) | (go_simp; rfl)); intro gb119 hg w4 hbox hb; have n0_ := Aside0.mk (below_step (by repeat (first | (with_reducible first | exact HB.out | apply below_alloc | apply pw_below_drewN | apply below_drew1) | exact HB.out)) hb); have n1_ := Aside0.mk (hbox); have n2_ := Aside0.mk ((by rw [hg]; exact (below_size (by repeat (first | (with_reducible first | exact HB.out | apply below_alloc | apply pw_below_drewN | apply below_drew1) | exact HB.out))) : w.heap.size ≤ gb119)); have n3_ := Aside0.mk ((by rw [hg]; exact (below_size (by repeat (first | (with_reducible first | exact HB.out | apply below_alloc | apply pw_below_drewN | apply below_drew1) | exact HB.out))) : w.heap.size ≤ gb119)); clear HB; have HB := n0_; have BK119 := n1_; have GW119 := n2_; have GE119 := n3_; clear n0_ n1_ n2_ n3_; clear hb hbox hg; have hcz5_0 : w4.cell? ⟨gb119, 0, none⟩ = some (.int .i64 a0_0) := (blk_cell BK119.out 0).trans rfl; have hcz5_1 : w4.cell? ⟨gb119, 1, none⟩ = some (.int .i64 a0_1) := (blk_cell BK119.out 1).trans rfl; have hcz5_2 : w4.cell? ⟨gb119, 2, none⟩ = some (.int .i64 a0_2) := (blk_cell BK119.out 2).trans rfl; have hcz5_3 : w4.cell? ⟨gb119, 3, none⟩ = some (.int .i64 a0_3) := (blk_cell BK119.out 3).trans rfl; have hcz5_4 : w4.cell? ⟨gb119, 4, none⟩ = some (.int .i64 a0_4) := (blk_cell BK119.out 4).trans rfl; have hfz5_0 := blk_frozen BK119.out 0; have hfz5_1 := blk_frozen BK119.out 1; have hfz5_2 := blk_frozen BK119.out 2; have hfz5_3 := blk_frozen BK119.out 3; have hfz5_4 := blk_frozen BK119.out 4) | ((with_reducible refine gate_callee (f := 15) rfl ?_); refine goesL_ (some 7) rfl rfl Tryd.func15 (by kernel_rfl) rfl #[.int .i64 a0_0] rfl (by (try simp only [List.map_toArray, List.map_cons, List.map_nil]); first | done | rfl | (simp only [List.length_drop, List.length_take]; rfl)) ?_; (with_reducible refine (caponierref02_Form.calls k a0_0 t120 _ A2.out).mono ?_); rintro e w' ⟨rfl, ⟨nd, rfl⟩⟩; refine ⟨_, rfl, ?_⟩))
 (try simp only [Act.put, List.setIfInBounds_toArray, List.set_cons_zero, List.set_cons_succ])
 go_cut [39] (fun v39 wc => ∃ (kq : Nat) (x39_2 : Bool), v39 = .bool x39_2 ∧ Aside0 (caponierref02_May.j0 kq t120 x39_2 a0_0 a0_1 a0_2 a0_3 a0_4 = some r) ∧ Aside0 (kq ≤ k) ∧ Aside0 (wc.heap[gb119]? = some (.cells #[.int .i64 a0_0, .int .i64 a0_1, .int .i64 a0_2, .int .i64 a0_3, .int .i64 a0_4] 23 (0, 0))) ∧ Aside0 (Below w.heap.size w wc))
 case first =>
  have H := HC3.out
  clear HC3
  by_cases c6 : t120.toList = ([] : List UInt8)
  ·rw [if_pos c6] at H
   have c6b0 : (t120.toList == ([] : List UInt8)) = true := beq_iff_eq.mpr c6
   have c6b1 : (t120.toList != ([] : List UInt8)) = false := bne_eq_false_iff_eq.mpr c6
   clear c6
   (first | rw [c6b0] | (simp only [i64_w, i32_w]; rw [c6b0]) | skip)
   have H' := Aside0.mk H
   clear H
   go_wp2
   go_meet
   case rel => exact ⟨_, (true), (by first | rfl | (simp; done) | (simp [*]; done)), H', ⟨by first | omega | exact Nat.le_refl _⟩, ⟨by (with_reducible repeat (first | refine blk_drewN ?_ _ | refine blk_drew ?_ | refine blk_alloc ?_ _)); exact BK119.out⟩, ⟨by repeat (first | (with_reducible first | exact HB.out | apply below_alloc | apply pw_below_drewN | apply below_drew1 | refine below_set ?_ GE119.out) | exact HB.out)⟩⟩
  ·rw [if_neg c6] at H
   have c6b0 : (t120.toList == ([] : List UInt8)) = false := beq_eq_false_iff_ne.mpr c6
   have c6b1 : (t120.toList != ([] : List UInt8)) = true := bne_iff_ne.mpr c6
   (first | rw [c6b0] | (simp only [i64_w, i32_w]; rw [c6b0]) | skip)
   by_cases c7 : a0_1 < 0
   ·rw [if_pos c7] at H
    have c7b0 : decide (a0_1 < 0) = true := decide_eq_true c7
    clear c7
    have H' := Aside0.mk H
    clear H
    have hcz8_0 : w4.cell? ⟨gb119, 0, none⟩ = some (.int .i64 a0_0) := (blk_cell BK119.out 0).trans rfl
    have hcz8_1 : w4.cell? ⟨gb119, 1, none⟩ = some (.int .i64 a0_1) := (blk_cell BK119.out 1).trans rfl
    have hcz8_2 : w4.cell? ⟨gb119, 2, none⟩ = some (.int .i64 a0_2) := (blk_cell BK119.out 2).trans rfl
    have hcz8_3 : w4.cell? ⟨gb119, 3, none⟩ = some (.int .i64 a0_3) := (blk_cell BK119.out 3).trans rfl
    have hcz8_4 : w4.cell? ⟨gb119, 4, none⟩ = some (.int .i64 a0_4) := (blk_cell BK119.out 4).trans rfl
    have hfz8_0 := blk_frozen BK119.out 0
    have hfz8_1 := blk_frozen BK119.out 1
    have hfz8_2 := blk_frozen BK119.out 2
    have hfz8_3 := blk_frozen BK119.out 3
    have hfz8_4 := blk_frozen BK119.out 4
    go_wp2
    go_meet
    case rel => exact ⟨_, (true), (by first | rfl | (simp; done) | (simp [*]; done)), H', ⟨by first | omega | exact Nat.le_refl _⟩, ⟨by (with_reducible repeat (first | refine blk_drewN ?_ _ | refine blk_drew ?_ | refine blk_alloc ?_ _)); exact BK119.out⟩, ⟨by repeat (first | (with_reducible first | exact HB.out | apply below_alloc | apply pw_below_drewN | apply below_drew1 | refine below_set ?_ GE119.out) | exact HB.out)⟩⟩
   ·rw [if_neg c7] at H
    have c7b0 : decide (a0_1 < 0) = false := decide_eq_false c7
    clear c7
    by_cases c9 : a0_1 > 31
    ·rw [if_pos c9] at H
     have c9b0 : decide (31 < a0_1) = true := decide_eq_true c9
     clear c9
     have H' := Aside0.mk H
     clear H
     have hcz10_0 : w4.cell? ⟨gb119, 0, none⟩ = some (.int .i64 a0_0) := (blk_cell BK119.out 0).trans rfl
     have hcz10_1 : w4.cell? ⟨gb119, 1, none⟩ = some (.int .i64 a0_1) := (blk_cell BK119.out 1).trans rfl
     have hcz10_2 : w4.cell? ⟨gb119, 2, none⟩ = some (.int .i64 a0_2) := (blk_cell BK119.out 2).trans rfl
     have hcz10_3 : w4.cell? ⟨gb119, 3, none⟩ = some (.int .i64 a0_3) := (blk_cell BK119.out 3).trans rfl
     have hcz10_4 : w4.cell? ⟨gb119, 4, none⟩ = some (.int .i64 a0_4) := (blk_cell BK119.out 4).trans rfl
     have hfz10_0 := blk_frozen BK119.out 0
     have hfz10_1 := blk_frozen BK119.out 1
     have hfz10_2 := blk_frozen BK119.out 2
     have hfz10_3 := blk_frozen BK119.out 3
     have hfz10_4 := blk_frozen BK119.out 4
     go_wp2
     go_meet
     case rel => exact ⟨_, (true), (by first | rfl | (simp; done) | (simp [*]; done)), H', ⟨by first | omega | exact Nat.le_refl _⟩, ⟨by (with_reducible repeat (first | refine blk_drewN ?_ _ | refine blk_drew ?_ | refine blk_alloc ?_ _)); exact BK119.out⟩, ⟨by repeat (first | (with_reducible first | exact HB.out | apply below_alloc | apply pw_below_drewN | apply below_drew1 | refine below_set ?_ GE119.out) | exact HB.out)⟩⟩
    ·rw [if_neg c9] at H
     have c9b0 : decide (31 < a0_1) = false := decide_eq_false c9
     clear c9
     by_cases c11 : a0_2 < 0
     ·rw [if_pos c11] at H
      have c11b0 : decide (a0_2 < 0) = true := decide_eq_true c11
      clear c11
      have H' := Aside0.mk H
      clear H
      have hcz12_0 : w4.cell? ⟨gb119, 0, none⟩ = some (.int .i64 a0_0) := (blk_cell BK119.out 0).trans rfl
      have hcz12_1 : w4.cell? ⟨gb119, 1, none⟩ = some (.int .i64 a0_1) := (blk_cell BK119.out 1).trans rfl
      have hcz12_2 : w4.cell? ⟨gb119, 2, none⟩ = some (.int .i64 a0_2) := (blk_cell BK119.out 2).trans rfl
      have hcz12_3 : w4.cell? ⟨gb119, 3, none⟩ = some (.int .i64 a0_3) := (blk_cell BK119.out 3).trans rfl
      have hcz12_4 : w4.cell? ⟨gb119, 4, none⟩ = some (.int .i64 a0_4) := (blk_cell BK119.out 4).trans rfl
      have hfz12_0 := blk_frozen BK119.out 0
      have hfz12_1 := blk_frozen BK119.out 1
      have hfz12_2 := blk_frozen BK119.out 2
      have hfz12_3 := blk_frozen BK119.out 3
      have hfz12_4 := blk_frozen BK119.out 4
      go_wp2
      go_meet
      case rel => exact ⟨_, (true), (by first | rfl | (simp; done) | (simp [*]; done)), H', ⟨by first | omega | exact Nat.le_refl _⟩, ⟨by (with_reducible repeat (first | refine blk_drewN ?_ _ | refine blk_drew ?_ | refine blk_alloc ?_ _)); exact BK119.out⟩, ⟨by repeat (first | (with_reducible first | exact HB.out | apply below_alloc | apply pw_below_drewN | apply below_drew1 | refine below_set ?_ GE119.out) | exact HB.out)⟩⟩
     ·rw [if_neg c11] at H
      have c11b0 : decide (a0_2 < 0) = false := decide_eq_false c11
      clear c11
      by_cases c13 : a0_2 > 31
      ·rw [if_pos c13] at H
       have c13b0 : decide (31 < a0_2) = true := decide_eq_true c13
       clear c13
       have H' := Aside0.mk H
       clear H
       have hcz14_0 : w4.cell? ⟨gb119, 0, none⟩ = some (.int .i64 a0_0) := (blk_cell BK119.out 0).trans rfl
       have hcz14_1 : w4.cell? ⟨gb119, 1, none⟩ = some (.int .i64 a0_1) := (blk_cell BK119.out 1).trans rfl
       have hcz14_2 : w4.cell? ⟨gb119, 2, none⟩ = some (.int .i64 a0_2) := (blk_cell BK119.out 2).trans rfl
       have hcz14_3 : w4.cell? ⟨gb119, 3, none⟩ = some (.int .i64 a0_3) := (blk_cell BK119.out 3).trans rfl
       have hcz14_4 : w4.cell? ⟨gb119, 4, none⟩ = some (.int .i64 a0_4) := (blk_cell BK119.out 4).trans rfl
       have hfz14_0 := blk_frozen BK119.out 0
       have hfz14_1 := blk_frozen BK119.out 1
       have hfz14_2 := blk_frozen BK119.out 2
       have hfz14_3 := blk_frozen BK119.out 3
       have hfz14_4 := blk_frozen BK119.out 4
       go_wp2
       go_meet
       case rel => exact ⟨_, (true), (by first | rfl | (simp; done) | (simp [*]; done)), H', ⟨by first | omega | exact Nat.le_refl _⟩, ⟨by (with_reducible repeat (first | refine blk_drewN ?_ _ | refine blk_drew ?_ | refine blk_alloc ?_ _)); exact BK119.out⟩, ⟨by repeat (first | (with_reducible first | exact HB.out | apply below_alloc | apply pw_below_drewN | apply below_drew1 | refine below_set ?_ GE119.out) | exact HB.out)⟩⟩
      ·rw [if_neg c13] at H
       have c13b0 : decide (31 < a0_2) = false := decide_eq_false c13
       clear c13
       by_cases c15 : a0_3 < 0
       ·rw [if_pos c15] at H
        have c15b0 : decide (a0_3 < 0) = true := decide_eq_true c15
        clear c15
        have H' := Aside0.mk H
        clear H
        have hcz16_0 : w4.cell? ⟨gb119, 0, none⟩ = some (.int .i64 a0_0) := (blk_cell BK119.out 0).trans rfl
        have hcz16_1 : w4.cell? ⟨gb119, 1, none⟩ = some (.int .i64 a0_1) := (blk_cell BK119.out 1).trans rfl
        have hcz16_2 : w4.cell? ⟨gb119, 2, none⟩ = some (.int .i64 a0_2) := (blk_cell BK119.out 2).trans rfl
        have hcz16_3 : w4.cell? ⟨gb119, 3, none⟩ = some (.int .i64 a0_3) := (blk_cell BK119.out 3).trans rfl
        have hcz16_4 : w4.cell? ⟨gb119, 4, none⟩ = some (.int .i64 a0_4) := (blk_cell BK119.out 4).trans rfl
        have hfz16_0 := blk_frozen BK119.out 0
        have hfz16_1 := blk_frozen BK119.out 1
        have hfz16_2 := blk_frozen BK119.out 2
        have hfz16_3 := blk_frozen BK119.out 3
        have hfz16_4 := blk_frozen BK119.out 4
        go_wp2
        go_meet
        case rel => exact ⟨_, (true), (by first | rfl | (simp; done) | (simp [*]; done)), H', ⟨by first | omega | exact Nat.le_refl _⟩, ⟨by (with_reducible repeat (first | refine blk_drewN ?_ _ | refine blk_drew ?_ | refine blk_alloc ?_ _)); exact BK119.out⟩, ⟨by repeat (first | (with_reducible first | exact HB.out | apply below_alloc | apply pw_below_drewN | apply below_drew1 | refine below_set ?_ GE119.out) | exact HB.out)⟩⟩
       ·rw [if_neg c15] at H
        have c15b0 : decide (a0_3 < 0) = false := decide_eq_false c15
        clear c15
        have H' := Aside0.mk H
        clear H
        have hcz17_0 : w4.cell? ⟨gb119, 0, none⟩ = some (.int .i64 a0_0) := (blk_cell BK119.out 0).trans rfl
        have hcz17_1 : w4.cell? ⟨gb119, 1, none⟩ = some (.int .i64 a0_1) := (blk_cell BK119.out 1).trans rfl
        have hcz17_2 : w4.cell? ⟨gb119, 2, none⟩ = some (.int .i64 a0_2) := (blk_cell BK119.out 2).trans rfl
        have hcz17_3 : w4.cell? ⟨gb119, 3, none⟩ = some (.int .i64 a0_3) := (blk_cell BK119.out 3).trans rfl
        have hcz17_4 : w4.cell? ⟨gb119, 4, none⟩ = some (.int .i64 a0_4) := (blk_cell BK119.out 4).trans rfl
        have hfz17_0 := blk_frozen BK119.out 0
        have hfz17_1 := blk_frozen BK119.out 1
        have hfz17_2 := blk_frozen BK119.out 2
        have hfz17_3 := blk_frozen BK119.out 3
        have hfz17_4 := blk_frozen BK119.out 4
        go_wp2
        go_meet
        case rel => exact ⟨_, (decide (a0_3 > 31)), (by first | rfl | (simp; done) | (simp [*]; done)), H', ⟨by first | omega | exact Nat.le_refl _⟩, ⟨by (with_reducible repeat (first | refine blk_drewN ?_ _ | refine blk_drew ?_ | refine blk_alloc ?_ _)); exact BK119.out⟩, ⟨by repeat (first | (with_reducible first | exact HB.out | apply below_alloc | apply pw_below_drewN | apply below_drew1 | refine below_set ?_ GE119.out) | exact HB.out)⟩⟩
 case rest =>
  clear HC3
  try clear c1
  try clear p2
  try clear c6
  try clear c6b0
  try clear c6b1
  try clear c7
  try clear c7b0
  try clear c9
  try clear c9b0
  try clear c11
  try clear c11b0
  try clear c13
  try clear c13b0
  try clear c15
  try clear c15b0
  try clear hcz10_0
  try clear hcz10_1
  try clear hcz10_2
  try clear hcz10_3
  try clear hcz10_4
  try clear hcz12_0
  try clear hcz12_1
  try clear hcz12_2
  try clear hcz12_3
  try clear hcz12_4
  try clear hcz14_0
  try clear hcz14_1
  try clear hcz14_2
  try clear hcz14_3
  try clear hcz14_4
  try clear hcz16_0
  try clear hcz16_1
  try clear hcz16_2
  try clear hcz16_3
  try clear hcz16_4
  try clear hcz17_0
  try clear hcz17_1
  try clear hcz17_2
  try clear hcz17_3
  try clear hcz17_4
  try clear hcz5_0
  try clear hcz5_1
  try clear hcz5_2
  try clear hcz5_3
  try clear hcz5_4
  try clear hcz8_0
  try clear hcz8_1
  try clear hcz8_2
  try clear hcz8_3
  try clear hcz8_4
  try clear hfz10_0
  try clear hfz10_1
  try clear hfz10_2
  try clear hfz10_3
  try clear hfz10_4
  try clear hfz12_0
  try clear hfz12_1
  try clear hfz12_2
  try clear hfz12_3
  try clear hfz12_4
  try clear hfz14_0
  try clear hfz14_1
  try clear hfz14_2
  try clear hfz14_3
  try clear hfz14_4
  try clear hfz16_0
  try clear hfz16_1
  try clear hfz16_2
  try clear hfz16_3
  try clear hfz16_4
  try clear hfz17_0
  try clear hfz17_1
  try clear hfz17_2
  try clear hfz17_3
  try clear hfz17_4
  try clear hfz5_0
  try clear hfz5_1
  try clear hfz5_2
  try clear hfz5_3
  try clear hfz5_4
  try clear hfz8_0
  try clear hfz8_1
  try clear hfz8_2
  try clear hfz8_3
  try clear hfz8_4
  obtain ⟨kq, x39_2, rfl, HA, HJ2, BK119, HB⟩ := hcut
  cases kq with
  | zero => exact absurd HA.out (by simp [caponierref02_May.j0])
  | succ kj2 =>
   have H := HA.out
   clear HA
   simp only [caponierref02_May.j0] at H
   by_cases c18 : x39_2 = true
   ·subst c18
    have H1 : (some false) = some r := by rw [if_pos rfl] at H; exact H
    clear H
    have H := H1
    clear H1
    obtain rfl := Option.some.inj H
    go_wp2
    go_ret
    exact ⟨by first | rfl | (simp [errW_none, errW_some] <;> rfl) | (simp [*, errW_none, errW_some] <;> rfl), by repeat (first | (with_reducible first | exact HB.out | apply below_alloc | apply pw_below_drewN | apply below_drew1 | refine below_set ?_ GE119.out) | exact HB.out)⟩
   ·replace c18 := Bool.eq_false_iff.mpr c18
    subst c18
    have H1 : (if a0_1 = 0 then (if a0_2 = 0 then (if a0_3 = 0 then (caponierref02_May.j1 kj2 t120 false a0_0 a0_1 a0_2 a0_3 a0_4) else (if t120.toList = ([82] : List UInt8) then (caponierref02_May.j1 kj2 t120 false a0_0 a0_1 a0_2 a0_3 a0_4) else (if t120.toList = ([83] : List UInt8) then (caponierref02_May.j1 kj2 t120 false a0_0 a0_1 a0_2 a0_3 a0_4) else (caponierref02_May.j1 kj2 t120 (t120.toList != ([66] : List UInt8)) a0_0 a0_1 a0_2 a0_3 a0_4)))) else (if t120.toList = ([85] : List UInt8) then (caponierref02_May.j1 kj2 t120 true a0_0 a0_1 a0_2 a0_3 a0_4) else (if t120.toList = ([74] : List UInt8) then (caponierref02_May.j1 kj2 t120 true a0_0 a0_1 a0_2 a0_3 a0_4) else (if t120.toList = ([69] : List UInt8) then (caponierref02_May.j1 kj2 t120 true a0_0 a0_1 a0_2 a0_3 a0_4) else (if a0_3 = 0 then (caponierref02_May.j1 kj2 t120 false a0_0 a0_1 a0_2 a0_3 a0_4) else (if t120.toList = ([82] : List UInt8) then (caponierref02_May.j1 kj2 t120 false a0_0 a0_1 a0_2 a0_3 a0_4) else (if t120.toList = ([83] : List UInt8) then (caponierref02_May.j1 kj2 t120 false a0_0 a0_1 a0_2 a0_3 a0_4) else (caponierref02_May.j1 kj2 t120 (t120.toList != ([66] : List UInt8)) a0_0 a0_1 a0_2 a0_3 a0_4)))))))) else (if t120.toList = ([83] : List UInt8) then (caponierref02_May.j1 kj2 t120 true a0_0 a0_1 a0_2 a0_3 a0_4) else (if t120.toList = ([66] : List UInt8) then (caponierref02_May.j1 kj2 t120 true a0_0 a0_1 a0_2 a0_3 a0_4) else (if t120.toList = ([69] : List UInt8) then (caponierref02_May.j1 kj2 t120 true a0_0 a0_1 a0_2 a0_3 a0_4) else (if a0_2 = 0 then (if a0_3 = 0 then (caponierref02_May.j1 kj2 t120 false a0_0 a0_1 a0_2 a0_3 a0_4) else (if t120.toList = ([82] : List UInt8) then (caponierref02_May.j1 kj2 t120 false a0_0 a0_1 a0_2 a0_3 a0_4) else (caponierref02_May.j1 kj2 t120 (t120.toList != ([66] : List UInt8)) a0_0 a0_1 a0_2 a0_3 a0_4))) else (if t120.toList = ([85] : List UInt8) then (caponierref02_May.j1 kj2 t120 true a0_0 a0_1 a0_2 a0_3 a0_4) else (if t120.toList = ([74] : List UInt8) then (caponierref02_May.j1 kj2 t120 true a0_0 a0_1 a0_2 a0_3 a0_4) else (if a0_3 = 0 then (caponierref02_May.j1 kj2 t120 false a0_0 a0_1 a0_2 a0_3 a0_4) else (if t120.toList = ([82] : List UInt8) then (caponierref02_May.j1 kj2 t120 false a0_0 a0_1 a0_2 a0_3 a0_4) else (caponierref02_May.j1 kj2 t120 (t120.toList != ([66] : List UInt8)) a0_0 a0_1 a0_2 a0_3 a0_4)))))))))) = some r := by rw [if_neg (show ¬ (false = true) by decide)] at H; exact H
    clear H
    have H := H1
    clear H1
    have HC19 := Aside0.mk H
    clear H
    go_upto_region 4 with (fail)
    go_cut [88] (fun v88 wc => ∃ (kq : Nat) (x88_18 : Bool), v88 = .bool x88_18 ∧ Aside0 (caponierref02_May.j1 kq t120 x88_18 a0_0 a0_1 a0_2 a0_3 a0_4 = some r) ∧ Aside0 (kq ≤ kj2) ∧ Aside0 (wc.heap[gb119]? = some (.cells #[.int .i64 a0_0, .int .i64 a0_1, .int .i64 a0_2, .int .i64 a0_3, .int .i64 a0_4] 23 (0, 0))) ∧ Aside0 (Below w.heap.size w wc))
    case first =>
     have H := HC19.out
     clear HC19
     by_cases c20 : a0_1 = 0
     ·rw [if_pos c20] at H
      have c20b0 : (a0_1 == 0) = true := beq_iff_eq.mpr c20
      have c20b1 : (a0_1 != 0) = false := bne_eq_false_iff_eq.mpr c20
      clear c20
      (first | rw [c20b0] | (simp only [i64_w, i32_w]; rw [c20b0]) | skip)
      by_cases c21 : a0_2 = 0
      ·rw [if_pos c21] at H
       have c21b0 : (a0_2 == 0) = true := beq_iff_eq.mpr c21
       have c21b1 : (a0_2 != 0) = false := bne_eq_false_iff_eq.mpr c21
       clear c21
       by_cases c22 : a0_3 = 0
       ·rw [if_pos c22] at H
        have c22b0 : (a0_3 == 0) = true := beq_iff_eq.mpr c22
        have c22b1 : (a0_3 != 0) = false := bne_eq_false_iff_eq.mpr c22
        clear c22
        have H' := Aside0.mk H
        clear H
        have hcz23_0 : wc.cell? ⟨gb119, 0, none⟩ = some (.int .i64 a0_0) := (blk_cell BK119.out 0).trans rfl
        have hcz23_1 : wc.cell? ⟨gb119, 1, none⟩ = some (.int .i64 a0_1) := (blk_cell BK119.out 1).trans rfl
        have hcz23_2 : wc.cell? ⟨gb119, 2, none⟩ = some (.int .i64 a0_2) := (blk_cell BK119.out 2).trans rfl
        have hcz23_3 : wc.cell? ⟨gb119, 3, none⟩ = some (.int .i64 a0_3) := (blk_cell BK119.out 3).trans rfl
        have hcz23_4 : wc.cell? ⟨gb119, 4, none⟩ = some (.int .i64 a0_4) := (blk_cell BK119.out 4).trans rfl
        have hfz23_0 := blk_frozen BK119.out 0
        have hfz23_1 := blk_frozen BK119.out 1
        have hfz23_2 := blk_frozen BK119.out 2
        have hfz23_3 := blk_frozen BK119.out 3
        have hfz23_4 := blk_frozen BK119.out 4
        go_wp2
        go_meet
        case rel => exact ⟨_, (false), (by first | rfl | (simp; done) | (simp [*]; done)), H', ⟨by have := HJ2.out; first | omega | exact Nat.le_refl _⟩, ⟨by (with_reducible repeat (first | refine blk_drewN ?_ _ | refine blk_drew ?_ | refine blk_alloc ?_ _)); exact BK119.out⟩, ⟨by repeat (first | (with_reducible first | exact HB.out | apply below_alloc | apply pw_below_drewN | apply below_drew1 | refine below_set ?_ GE119.out) | exact HB.out)⟩⟩
       ·rw [if_neg c22] at H
        have c22b0 : (a0_3 == 0) = false := beq_eq_false_iff_ne.mpr c22
        have c22b1 : (a0_3 != 0) = true := bne_iff_ne.mpr c22
        by_cases c24 : t120.toList = ([82] : List UInt8)
        ·rw [if_pos c24] at H
         have c24b0 : (t120.toList == ([82] : List UInt8)) = true := beq_iff_eq.mpr c24
         have c24b1 : (t120.toList != ([82] : List UInt8)) = false := bne_eq_false_iff_eq.mpr c24
         clear c24
         have H' := Aside0.mk H
         clear H
         have hcz25_0 : wc.cell? ⟨gb119, 0, none⟩ = some (.int .i64 a0_0) := (blk_cell BK119.out 0).trans rfl
         have hcz25_1 : wc.cell? ⟨gb119, 1, none⟩ = some (.int .i64 a0_1) := (blk_cell BK119.out 1).trans rfl
         have hcz25_2 : wc.cell? ⟨gb119, 2, none⟩ = some (.int .i64 a0_2) := (blk_cell BK119.out 2).trans rfl
         have hcz25_3 : wc.cell? ⟨gb119, 3, none⟩ = some (.int .i64 a0_3) := (blk_cell BK119.out 3).trans rfl
         have hcz25_4 : wc.cell? ⟨gb119, 4, none⟩ = some (.int .i64 a0_4) := (blk_cell BK119.out 4).trans rfl
         have hfz25_0 := blk_frozen BK119.out 0
         have hfz25_1 := blk_frozen BK119.out 1
         have hfz25_2 := blk_frozen BK119.out 2
         have hfz25_3 := blk_frozen BK119.out 3
         have hfz25_4 := blk_frozen BK119.out 4
         go_wp2
         go_meet
         case rel => exact ⟨_, (false), (by first | rfl | (simp; done) | (simp [*]; done)), H', ⟨by have := HJ2.out; first | omega | exact Nat.le_refl _⟩, ⟨by (with_reducible repeat (first | refine blk_drewN ?_ _ | refine blk_drew ?_ | refine blk_alloc ?_ _)); exact BK119.out⟩, ⟨by repeat (first | (with_reducible first | exact HB.out | apply below_alloc | apply pw_below_drewN | apply below_drew1 | refine below_set ?_ GE119.out) | exact HB.out)⟩⟩
        ·rw [if_neg c24] at H
         have c24b0 : (t120.toList == ([82] : List UInt8)) = false := beq_eq_false_iff_ne.mpr c24
         have c24b1 : (t120.toList != ([82] : List UInt8)) = true := bne_iff_ne.mpr c24
         by_cases c26 : t120.toList = ([83] : List UInt8)
         ·rw [if_pos c26] at H
          have c26b0 : (t120.toList == ([83] : List UInt8)) = true := beq_iff_eq.mpr c26
          have c26b1 : (t120.toList != ([83] : List UInt8)) = false := bne_eq_false_iff_eq.mpr c26
          clear c26
          have H' := Aside0.mk H
          clear H
          have hcz27_0 : wc.cell? ⟨gb119, 0, none⟩ = some (.int .i64 a0_0) := (blk_cell BK119.out 0).trans rfl
          have hcz27_1 : wc.cell? ⟨gb119, 1, none⟩ = some (.int .i64 a0_1) := (blk_cell BK119.out 1).trans rfl
          have hcz27_2 : wc.cell? ⟨gb119, 2, none⟩ = some (.int .i64 a0_2) := (blk_cell BK119.out 2).trans rfl
          have hcz27_3 : wc.cell? ⟨gb119, 3, none⟩ = some (.int .i64 a0_3) := (blk_cell BK119.out 3).trans rfl
          have hcz27_4 : wc.cell? ⟨gb119, 4, none⟩ = some (.int .i64 a0_4) := (blk_cell BK119.out 4).trans rfl
          have hfz27_0 := blk_frozen BK119.out 0
          have hfz27_1 := blk_frozen BK119.out 1
          have hfz27_2 := blk_frozen BK119.out 2
          have hfz27_3 := blk_frozen BK119.out 3
          have hfz27_4 := blk_frozen BK119.out 4
          go_wp2
          go_meet
          case rel => exact ⟨_, (false), (by first | rfl | (simp; done) | (simp [*]; done)), H', ⟨by have := HJ2.out; first | omega | exact Nat.le_refl _⟩, ⟨by (with_reducible repeat (first | refine blk_drewN ?_ _ | refine blk_drew ?_ | refine blk_alloc ?_ _)); exact BK119.out⟩, ⟨by repeat (first | (with_reducible first | exact HB.out | apply below_alloc | apply pw_below_drewN | apply below_drew1 | refine below_set ?_ GE119.out) | exact HB.out)⟩⟩
         ·rw [if_neg c26] at H
          have c26b0 : (t120.toList == ([83] : List UInt8)) = false := beq_eq_false_iff_ne.mpr c26
          have c26b1 : (t120.toList != ([83] : List UInt8)) = true := bne_iff_ne.mpr c26
          have H' := Aside0.mk H
          clear H
          have hcz28_0 : wc.cell? ⟨gb119, 0, none⟩ = some (.int .i64 a0_0) := (blk_cell BK119.out 0).trans rfl
          have hcz28_1 : wc.cell? ⟨gb119, 1, none⟩ = some (.int .i64 a0_1) := (blk_cell BK119.out 1).trans rfl
          have hcz28_2 : wc.cell? ⟨gb119, 2, none⟩ = some (.int .i64 a0_2) := (blk_cell BK119.out 2).trans rfl
          have hcz28_3 : wc.cell? ⟨gb119, 3, none⟩ = some (.int .i64 a0_3) := (blk_cell BK119.out 3).trans rfl
          have hcz28_4 : wc.cell? ⟨gb119, 4, none⟩ = some (.int .i64 a0_4) := (blk_cell BK119.out 4).trans rfl
          have hfz28_0 := blk_frozen BK119.out 0
          have hfz28_1 := blk_frozen BK119.out 1
          have hfz28_2 := blk_frozen BK119.out 2
          have hfz28_3 := blk_frozen BK119.out 3
          have hfz28_4 := blk_frozen BK119.out 4
          go_wp2
          go_meet
          case rel => exact ⟨_, ((t120.toList != ([66] : List UInt8))), (by first | rfl | (simp; done) | (simp [*]; done)), H', ⟨by have := HJ2.out; first | omega | exact Nat.le_refl _⟩, ⟨by (with_reducible repeat (first | refine blk_drewN ?_ _ | refine blk_drew ?_ | refine blk_alloc ?_ _)); exact BK119.out⟩, ⟨by repeat (first | (with_reducible first | exact HB.out | apply below_alloc | apply pw_below_drewN | apply below_drew1 | refine below_set ?_ GE119.out) | exact HB.out)⟩⟩
      ·rw [if_neg c21] at H
       have c21b0 : (a0_2 == 0) = false := beq_eq_false_iff_ne.mpr c21
       have c21b1 : (a0_2 != 0) = true := bne_iff_ne.mpr c21
       by_cases c29 : t120.toList = ([85] : List UInt8)
       ·rw [if_pos c29] at H
        have c29b0 : (t120.toList == ([85] : List UInt8)) = true := beq_iff_eq.mpr c29
        have c29b1 : (t120.toList != ([85] : List UInt8)) = false := bne_eq_false_iff_eq.mpr c29
        clear c29
        have H' := Aside0.mk H
        clear H
        have hcz30_0 : wc.cell? ⟨gb119, 0, none⟩ = some (.int .i64 a0_0) := (blk_cell BK119.out 0).trans rfl
        have hcz30_1 : wc.cell? ⟨gb119, 1, none⟩ = some (.int .i64 a0_1) := (blk_cell BK119.out 1).trans rfl
        have hcz30_2 : wc.cell? ⟨gb119, 2, none⟩ = some (.int .i64 a0_2) := (blk_cell BK119.out 2).trans rfl
        have hcz30_3 : wc.cell? ⟨gb119, 3, none⟩ = some (.int .i64 a0_3) := (blk_cell BK119.out 3).trans rfl
        have hcz30_4 : wc.cell? ⟨gb119, 4, none⟩ = some (.int .i64 a0_4) := (blk_cell BK119.out 4).trans rfl
        have hfz30_0 := blk_frozen BK119.out 0
        have hfz30_1 := blk_frozen BK119.out 1
        have hfz30_2 := blk_frozen BK119.out 2
        have hfz30_3 := blk_frozen BK119.out 3
        have hfz30_4 := blk_frozen BK119.out 4
        go_wp2
        go_meet
        case rel => exact ⟨_, (true), (by first | rfl | (simp; done) | (simp [*]; done)), H', ⟨by have := HJ2.out; first | omega | exact Nat.le_refl _⟩, ⟨by (with_reducible repeat (first | refine blk_drewN ?_ _ | refine blk_drew ?_ | refine blk_alloc ?_ _)); exact BK119.out⟩, ⟨by repeat (first | (with_reducible first | exact HB.out | apply below_alloc | apply pw_below_drewN | apply below_drew1 | refine below_set ?_ GE119.out) | exact HB.out)⟩⟩
       ·rw [if_neg c29] at H
        have c29b0 : (t120.toList == ([85] : List UInt8)) = false := beq_eq_false_iff_ne.mpr c29
        have c29b1 : (t120.toList != ([85] : List UInt8)) = true := bne_iff_ne.mpr c29
        by_cases c31 : t120.toList = ([74] : List UInt8)
        ·rw [if_pos c31] at H
         have c31b0 : (t120.toList == ([74] : List UInt8)) = true := beq_iff_eq.mpr c31
         have c31b1 : (t120.toList != ([74] : List UInt8)) = false := bne_eq_false_iff_eq.mpr c31
         clear c31
         have H' := Aside0.mk H
         clear H
         have hcz32_0 : wc.cell? ⟨gb119, 0, none⟩ = some (.int .i64 a0_0) := (blk_cell BK119.out 0).trans rfl
         have hcz32_1 : wc.cell? ⟨gb119, 1, none⟩ = some (.int .i64 a0_1) := (blk_cell BK119.out 1).trans rfl
         have hcz32_2 : wc.cell? ⟨gb119, 2, none⟩ = some (.int .i64 a0_2) := (blk_cell BK119.out 2).trans rfl
         have hcz32_3 : wc.cell? ⟨gb119, 3, none⟩ = some (.int .i64 a0_3) := (blk_cell BK119.out 3).trans rfl
         have hcz32_4 : wc.cell? ⟨gb119, 4, none⟩ = some (.int .i64 a0_4) := (blk_cell BK119.out 4).trans rfl
         have hfz32_0 := blk_frozen BK119.out 0
         have hfz32_1 := blk_frozen BK119.out 1
         have hfz32_2 := blk_frozen BK119.out 2
         have hfz32_3 := blk_frozen BK119.out 3
         have hfz32_4 := blk_frozen BK119.out 4
         go_wp2
         go_meet
         case rel => exact ⟨_, (true), (by first | rfl | (simp; done) | (simp [*]; done)), H', ⟨by have := HJ2.out; first | omega | exact Nat.le_refl _⟩, ⟨by (with_reducible repeat (first | refine blk_drewN ?_ _ | refine blk_drew ?_ | refine blk_alloc ?_ _)); exact BK119.out⟩, ⟨by repeat (first | (with_reducible first | exact HB.out | apply below_alloc | apply pw_below_drewN | apply below_drew1 | refine below_set ?_ GE119.out) | exact HB.out)⟩⟩
        ·rw [if_neg c31] at H
         have c31b0 : (t120.toList == ([74] : List UInt8)) = false := beq_eq_false_iff_ne.mpr c31
         have c31b1 : (t120.toList != ([74] : List UInt8)) = true := bne_iff_ne.mpr c31
         by_cases c33 : t120.toList = ([69] : List UInt8)
         ·rw [if_pos c33] at H
          have c33b0 : (t120.toList == ([69] : List UInt8)) = true := beq_iff_eq.mpr c33
          have c33b1 : (t120.toList != ([69] : List UInt8)) = false := bne_eq_false_iff_eq.mpr c33
          clear c33
          have H' := Aside0.mk H
          clear H
          have hcz34_0 : wc.cell? ⟨gb119, 0, none⟩ = some (.int .i64 a0_0) := (blk_cell BK119.out 0).trans rfl
          have hcz34_1 : wc.cell? ⟨gb119, 1, none⟩ = some (.int .i64 a0_1) := (blk_cell BK119.out 1).trans rfl
          have hcz34_2 : wc.cell? ⟨gb119, 2, none⟩ = some (.int .i64 a0_2) := (blk_cell BK119.out 2).trans rfl
          have hcz34_3 : wc.cell? ⟨gb119, 3, none⟩ = some (.int .i64 a0_3) := (blk_cell BK119.out 3).trans rfl
          have hcz34_4 : wc.cell? ⟨gb119, 4, none⟩ = some (.int .i64 a0_4) := (blk_cell BK119.out 4).trans rfl
          have hfz34_0 := blk_frozen BK119.out 0
          have hfz34_1 := blk_frozen BK119.out 1
          have hfz34_2 := blk_frozen BK119.out 2
          have hfz34_3 := blk_frozen BK119.out 3
          have hfz34_4 := blk_frozen BK119.out 4
          go_wp2
          go_meet
          case rel => exact ⟨_, (true), (by first | rfl | (simp; done) | (simp [*]; done)), H', ⟨by have := HJ2.out; first | omega | exact Nat.le_refl _⟩, ⟨by (with_reducible repeat (first | refine blk_drewN ?_ _ | refine blk_drew ?_ | refine blk_alloc ?_ _)); exact BK119.out⟩, ⟨by repeat (first | (with_reducible first | exact HB.out | apply below_alloc | apply pw_below_drewN | apply below_drew1 | refine below_set ?_ GE119.out) | exact HB.out)⟩⟩
         ·rw [if_neg c33] at H
          have c33b0 : (t120.toList == ([69] : List UInt8)) = false := beq_eq_false_iff_ne.mpr c33
          have c33b1 : (t120.toList != ([69] : List UInt8)) = true := bne_iff_ne.mpr c33
          by_cases c35 : a0_3 = 0
          ·rw [if_pos c35] at H
           have c35b0 : (a0_3 == 0) = true := beq_iff_eq.mpr c35
           have c35b1 : (a0_3 != 0) = false := bne_eq_false_iff_eq.mpr c35
           clear c35
           have H' := Aside0.mk H
           clear H
           have hcz36_0 : wc.cell? ⟨gb119, 0, none⟩ = some (.int .i64 a0_0) := (blk_cell BK119.out 0).trans rfl
           have hcz36_1 : wc.cell? ⟨gb119, 1, none⟩ = some (.int .i64 a0_1) := (blk_cell BK119.out 1).trans rfl
           have hcz36_2 : wc.cell? ⟨gb119, 2, none⟩ = some (.int .i64 a0_2) := (blk_cell BK119.out 2).trans rfl
           have hcz36_3 : wc.cell? ⟨gb119, 3, none⟩ = some (.int .i64 a0_3) := (blk_cell BK119.out 3).trans rfl
           have hcz36_4 : wc.cell? ⟨gb119, 4, none⟩ = some (.int .i64 a0_4) := (blk_cell BK119.out 4).trans rfl
           have hfz36_0 := blk_frozen BK119.out 0
           have hfz36_1 := blk_frozen BK119.out 1
           have hfz36_2 := blk_frozen BK119.out 2
           have hfz36_3 := blk_frozen BK119.out 3
           have hfz36_4 := blk_frozen BK119.out 4
           go_wp2
           go_meet
           case rel => exact ⟨_, (false), (by first | rfl | (simp; done) | (simp [*]; done)), H', ⟨by have := HJ2.out; first | omega | exact Nat.le_refl _⟩, ⟨by (with_reducible repeat (first | refine blk_drewN ?_ _ | refine blk_drew ?_ | refine blk_alloc ?_ _)); exact BK119.out⟩, ⟨by repeat (first | (with_reducible first | exact HB.out | apply below_alloc | apply pw_below_drewN | apply below_drew1 | refine below_set ?_ GE119.out) | exact HB.out)⟩⟩
          ·rw [if_neg c35] at H
           have c35b0 : (a0_3 == 0) = false := beq_eq_false_iff_ne.mpr c35
           have c35b1 : (a0_3 != 0) = true := bne_iff_ne.mpr c35
           by_cases c37 : t120.toList = ([82] : List UInt8)
           ·rw [if_pos c37] at H
            have c37b0 : (t120.toList == ([82] : List UInt8)) = true := beq_iff_eq.mpr c37
            have c37b1 : (t120.toList != ([82] : List UInt8)) = false := bne_eq_false_iff_eq.mpr c37
            clear c37
            have H' := Aside0.mk H
            clear H
            have hcz38_0 : wc.cell? ⟨gb119, 0, none⟩ = some (.int .i64 a0_0) := (blk_cell BK119.out 0).trans rfl
            have hcz38_1 : wc.cell? ⟨gb119, 1, none⟩ = some (.int .i64 a0_1) := (blk_cell BK119.out 1).trans rfl
            have hcz38_2 : wc.cell? ⟨gb119, 2, none⟩ = some (.int .i64 a0_2) := (blk_cell BK119.out 2).trans rfl
            have hcz38_3 : wc.cell? ⟨gb119, 3, none⟩ = some (.int .i64 a0_3) := (blk_cell BK119.out 3).trans rfl
            have hcz38_4 : wc.cell? ⟨gb119, 4, none⟩ = some (.int .i64 a0_4) := (blk_cell BK119.out 4).trans rfl
            have hfz38_0 := blk_frozen BK119.out 0
            have hfz38_1 := blk_frozen BK119.out 1
            have hfz38_2 := blk_frozen BK119.out 2
            have hfz38_3 := blk_frozen BK119.out 3
            have hfz38_4 := blk_frozen BK119.out 4
            go_wp2
            go_meet
            case rel => exact ⟨_, (false), (by first | rfl | (simp; done) | (simp [*]; done)), H', ⟨by have := HJ2.out; first | omega | exact Nat.le_refl _⟩, ⟨by (with_reducible repeat (first | refine blk_drewN ?_ _ | refine blk_drew ?_ | refine blk_alloc ?_ _)); exact BK119.out⟩, ⟨by repeat (first | (with_reducible first | exact HB.out | apply below_alloc | apply pw_below_drewN | apply below_drew1 | refine below_set ?_ GE119.out) | exact HB.out)⟩⟩
           ·rw [if_neg c37] at H
            have c37b0 : (t120.toList == ([82] : List UInt8)) = false := beq_eq_false_iff_ne.mpr c37
            have c37b1 : (t120.toList != ([82] : List UInt8)) = true := bne_iff_ne.mpr c37
            by_cases c39 : t120.toList = ([83] : List UInt8)
            ·rw [if_pos c39] at H
             have c39b0 : (t120.toList == ([83] : List UInt8)) = true := beq_iff_eq.mpr c39
             have c39b1 : (t120.toList != ([83] : List UInt8)) = false := bne_eq_false_iff_eq.mpr c39
             clear c39
             have H' := Aside0.mk H
             clear H
             have hcz40_0 : wc.cell? ⟨gb119, 0, none⟩ = some (.int .i64 a0_0) := (blk_cell BK119.out 0).trans rfl
             have hcz40_1 : wc.cell? ⟨gb119, 1, none⟩ = some (.int .i64 a0_1) := (blk_cell BK119.out 1).trans rfl
             have hcz40_2 : wc.cell? ⟨gb119, 2, none⟩ = some (.int .i64 a0_2) := (blk_cell BK119.out 2).trans rfl
             have hcz40_3 : wc.cell? ⟨gb119, 3, none⟩ = some (.int .i64 a0_3) := (blk_cell BK119.out 3).trans rfl
             have hcz40_4 : wc.cell? ⟨gb119, 4, none⟩ = some (.int .i64 a0_4) := (blk_cell BK119.out 4).trans rfl
             have hfz40_0 := blk_frozen BK119.out 0
             have hfz40_1 := blk_frozen BK119.out 1
             have hfz40_2 := blk_frozen BK119.out 2
             have hfz40_3 := blk_frozen BK119.out 3
             have hfz40_4 := blk_frozen BK119.out 4
             go_wp2
             go_meet
             case rel => exact ⟨_, (false), (by first | rfl | (simp; done) | (simp [*]; done)), H', ⟨by have := HJ2.out; first | omega | exact Nat.le_refl _⟩, ⟨by (with_reducible repeat (first | refine blk_drewN ?_ _ | refine blk_drew ?_ | refine blk_alloc ?_ _)); exact BK119.out⟩, ⟨by repeat (first | (with_reducible first | exact HB.out | apply below_alloc | apply pw_below_drewN | apply below_drew1 | refine below_set ?_ GE119.out) | exact HB.out)⟩⟩
            ·rw [if_neg c39] at H
             have c39b0 : (t120.toList == ([83] : List UInt8)) = false := beq_eq_false_iff_ne.mpr c39
             have c39b1 : (t120.toList != ([83] : List UInt8)) = true := bne_iff_ne.mpr c39
             have H' := Aside0.mk H
             clear H
             have hcz41_0 : wc.cell? ⟨gb119, 0, none⟩ = some (.int .i64 a0_0) := (blk_cell BK119.out 0).trans rfl
             have hcz41_1 : wc.cell? ⟨gb119, 1, none⟩ = some (.int .i64 a0_1) := (blk_cell BK119.out 1).trans rfl
             have hcz41_2 : wc.cell? ⟨gb119, 2, none⟩ = some (.int .i64 a0_2) := (blk_cell BK119.out 2).trans rfl
             have hcz41_3 : wc.cell? ⟨gb119, 3, none⟩ = some (.int .i64 a0_3) := (blk_cell BK119.out 3).trans rfl
             have hcz41_4 : wc.cell? ⟨gb119, 4, none⟩ = some (.int .i64 a0_4) := (blk_cell BK119.out 4).trans rfl
             have hfz41_0 := blk_frozen BK119.out 0
             have hfz41_1 := blk_frozen BK119.out 1
             have hfz41_2 := blk_frozen BK119.out 2
             have hfz41_3 := blk_frozen BK119.out 3
             have hfz41_4 := blk_frozen BK119.out 4
             go_wp2
             go_meet
             case rel => exact ⟨_, ((t120.toList != ([66] : List UInt8))), (by first | rfl | (simp; done) | (simp [*]; done)), H', ⟨by have := HJ2.out; first | omega | exact Nat.le_refl _⟩, ⟨by (with_reducible repeat (first | refine blk_drewN ?_ _ | refine blk_drew ?_ | refine blk_alloc ?_ _)); exact BK119.out⟩, ⟨by repeat (first | (with_reducible first | exact HB.out | apply below_alloc | apply pw_below_drewN | apply below_drew1 | refine below_set ?_ GE119.out) | exact HB.out)⟩⟩
     ·rw [if_neg c20] at H
      have c20b0 : (a0_1 == 0) = false := beq_eq_false_iff_ne.mpr c20
      have c20b1 : (a0_1 != 0) = true := bne_iff_ne.mpr c20
      (first | rw [c20b0] | (simp only [i64_w, i32_w]; rw [c20b0]) | skip)
      by_cases c42 : t120.toList = ([83] : List UInt8)
      ·rw [if_pos c42] at H
       have c42b0 : (t120.toList == ([83] : List UInt8)) = true := beq_iff_eq.mpr c42
       have c42b1 : (t120.toList != ([83] : List UInt8)) = false := bne_eq_false_iff_eq.mpr c42
       clear c42
       have H' := Aside0.mk H
       clear H
       have hcz43_0 : wc.cell? ⟨gb119, 0, none⟩ = some (.int .i64 a0_0) := (blk_cell BK119.out 0).trans rfl
       have hcz43_1 : wc.cell? ⟨gb119, 1, none⟩ = some (.int .i64 a0_1) := (blk_cell BK119.out 1).trans rfl
       have hcz43_2 : wc.cell? ⟨gb119, 2, none⟩ = some (.int .i64 a0_2) := (blk_cell BK119.out 2).trans rfl
       have hcz43_3 : wc.cell? ⟨gb119, 3, none⟩ = some (.int .i64 a0_3) := (blk_cell BK119.out 3).trans rfl
       have hcz43_4 : wc.cell? ⟨gb119, 4, none⟩ = some (.int .i64 a0_4) := (blk_cell BK119.out 4).trans rfl
       have hfz43_0 := blk_frozen BK119.out 0
       have hfz43_1 := blk_frozen BK119.out 1
       have hfz43_2 := blk_frozen BK119.out 2
       have hfz43_3 := blk_frozen BK119.out 3
       have hfz43_4 := blk_frozen BK119.out 4
       go_wp2
       go_meet
       case rel => exact ⟨_, (true), (by first | rfl | (simp; done) | (simp [*]; done)), H', ⟨by have := HJ2.out; first | omega | exact Nat.le_refl _⟩, ⟨by (with_reducible repeat (first | refine blk_drewN ?_ _ | refine blk_drew ?_ | refine blk_alloc ?_ _)); exact BK119.out⟩, ⟨by repeat (first | (with_reducible first | exact HB.out | apply below_alloc | apply pw_below_drewN | apply below_drew1 | refine below_set ?_ GE119.out) | exact HB.out)⟩⟩
      ·rw [if_neg c42] at H
       have c42b0 : (t120.toList == ([83] : List UInt8)) = false := beq_eq_false_iff_ne.mpr c42
       have c42b1 : (t120.toList != ([83] : List UInt8)) = true := bne_iff_ne.mpr c42
       by_cases c44 : t120.toList = ([66] : List UInt8)
       ·rw [if_pos c44] at H
        have c44b0 : (t120.toList == ([66] : List UInt8)) = true := beq_iff_eq.mpr c44
        have c44b1 : (t120.toList != ([66] : List UInt8)) = false := bne_eq_false_iff_eq.mpr c44
        clear c44
        have H' := Aside0.mk H
        clear H
        have hcz45_0 : wc.cell? ⟨gb119, 0, none⟩ = some (.int .i64 a0_0) := (blk_cell BK119.out 0).trans rfl
        have hcz45_1 : wc.cell? ⟨gb119, 1, none⟩ = some (.int .i64 a0_1) := (blk_cell BK119.out 1).trans rfl
        have hcz45_2 : wc.cell? ⟨gb119, 2, none⟩ = some (.int .i64 a0_2) := (blk_cell BK119.out 2).trans rfl
        have hcz45_3 : wc.cell? ⟨gb119, 3, none⟩ = some (.int .i64 a0_3) := (blk_cell BK119.out 3).trans rfl
        have hcz45_4 : wc.cell? ⟨gb119, 4, none⟩ = some (.int .i64 a0_4) := (blk_cell BK119.out 4).trans rfl
        have hfz45_0 := blk_frozen BK119.out 0
        have hfz45_1 := blk_frozen BK119.out 1
        have hfz45_2 := blk_frozen BK119.out 2
        have hfz45_3 := blk_frozen BK119.out 3
        have hfz45_4 := blk_frozen BK119.out 4
        go_wp2
        go_meet
        case rel => exact ⟨_, (true), (by first | rfl | (simp; done) | (simp [*]; done)), H', ⟨by have := HJ2.out; first | omega | exact Nat.le_refl _⟩, ⟨by (with_reducible repeat (first | refine blk_drewN ?_ _ | refine blk_drew ?_ | refine blk_alloc ?_ _)); exact BK119.out⟩, ⟨by repeat (first | (with_reducible first | exact HB.out | apply below_alloc | apply pw_below_drewN | apply below_drew1 | refine below_set ?_ GE119.out) | exact HB.out)⟩⟩
       ·rw [if_neg c44] at H
        have c44b0 : (t120.toList == ([66] : List UInt8)) = false := beq_eq_false_iff_ne.mpr c44
        have c44b1 : (t120.toList != ([66] : List UInt8)) = true := bne_iff_ne.mpr c44
        by_cases c46 : t120.toList = ([69] : List UInt8)
        ·rw [if_pos c46] at H
         have c46b0 : (t120.toList == ([69] : List UInt8)) = true := beq_iff_eq.mpr c46
         have c46b1 : (t120.toList != ([69] : List UInt8)) = false := bne_eq_false_iff_eq.mpr c46
         clear c46
         have H' := Aside0.mk H
         clear H
         have hcz47_0 : wc.cell? ⟨gb119, 0, none⟩ = some (.int .i64 a0_0) := (blk_cell BK119.out 0).trans rfl
         have hcz47_1 : wc.cell? ⟨gb119, 1, none⟩ = some (.int .i64 a0_1) := (blk_cell BK119.out 1).trans rfl
         have hcz47_2 : wc.cell? ⟨gb119, 2, none⟩ = some (.int .i64 a0_2) := (blk_cell BK119.out 2).trans rfl
         have hcz47_3 : wc.cell? ⟨gb119, 3, none⟩ = some (.int .i64 a0_3) := (blk_cell BK119.out 3).trans rfl
         have hcz47_4 : wc.cell? ⟨gb119, 4, none⟩ = some (.int .i64 a0_4) := (blk_cell BK119.out 4).trans rfl
         have hfz47_0 := blk_frozen BK119.out 0
         have hfz47_1 := blk_frozen BK119.out 1
         have hfz47_2 := blk_frozen BK119.out 2
         have hfz47_3 := blk_frozen BK119.out 3
         have hfz47_4 := blk_frozen BK119.out 4
         go_wp2
         go_meet
         case rel => exact ⟨_, (true), (by first | rfl | (simp; done) | (simp [*]; done)), H', ⟨by have := HJ2.out; first | omega | exact Nat.le_refl _⟩, ⟨by (with_reducible repeat (first | refine blk_drewN ?_ _ | refine blk_drew ?_ | refine blk_alloc ?_ _)); exact BK119.out⟩, ⟨by repeat (first | (with_reducible first | exact HB.out | apply below_alloc | apply pw_below_drewN | apply below_drew1 | refine below_set ?_ GE119.out) | exact HB.out)⟩⟩
        ·rw [if_neg c46] at H
         have c46b0 : (t120.toList == ([69] : List UInt8)) = false := beq_eq_false_iff_ne.mpr c46
         have c46b1 : (t120.toList != ([69] : List UInt8)) = true := bne_iff_ne.mpr c46
         by_cases c48 : a0_2 = 0
         ·rw [if_pos c48] at H
          have c48b0 : (a0_2 == 0) = true := beq_iff_eq.mpr c48
          have c48b1 : (a0_2 != 0) = false := bne_eq_false_iff_eq.mpr c48
          clear c48
          by_cases c49 : a0_3 = 0
          ·rw [if_pos c49] at H
           have c49b0 : (a0_3 == 0) = true := beq_iff_eq.mpr c49
           have c49b1 : (a0_3 != 0) = false := bne_eq_false_iff_eq.mpr c49
           clear c49
           have H' := Aside0.mk H
           clear H
           have hcz50_0 : wc.cell? ⟨gb119, 0, none⟩ = some (.int .i64 a0_0) := (blk_cell BK119.out 0).trans rfl
           have hcz50_1 : wc.cell? ⟨gb119, 1, none⟩ = some (.int .i64 a0_1) := (blk_cell BK119.out 1).trans rfl
           have hcz50_2 : wc.cell? ⟨gb119, 2, none⟩ = some (.int .i64 a0_2) := (blk_cell BK119.out 2).trans rfl
           have hcz50_3 : wc.cell? ⟨gb119, 3, none⟩ = some (.int .i64 a0_3) := (blk_cell BK119.out 3).trans rfl
           have hcz50_4 : wc.cell? ⟨gb119, 4, none⟩ = some (.int .i64 a0_4) := (blk_cell BK119.out 4).trans rfl
           have hfz50_0 := blk_frozen BK119.out 0
           have hfz50_1 := blk_frozen BK119.out 1
           have hfz50_2 := blk_frozen BK119.out 2
           have hfz50_3 := blk_frozen BK119.out 3
           have hfz50_4 := blk_frozen BK119.out 4
           go_wp2
           go_meet
           case rel => exact ⟨_, (false), (by first | rfl | (simp; done) | (simp [*]; done)), H', ⟨by have := HJ2.out; first | omega | exact Nat.le_refl _⟩, ⟨by (with_reducible repeat (first | refine blk_drewN ?_ _ | refine blk_drew ?_ | refine blk_alloc ?_ _)); exact BK119.out⟩, ⟨by repeat (first | (with_reducible first | exact HB.out | apply below_alloc | apply pw_below_drewN | apply below_drew1 | refine below_set ?_ GE119.out) | exact HB.out)⟩⟩
          ·rw [if_neg c49] at H
           have c49b0 : (a0_3 == 0) = false := beq_eq_false_iff_ne.mpr c49
           have c49b1 : (a0_3 != 0) = true := bne_iff_ne.mpr c49
           by_cases c51 : t120.toList = ([82] : List UInt8)
           ·rw [if_pos c51] at H
            have c51b0 : (t120.toList == ([82] : List UInt8)) = true := beq_iff_eq.mpr c51
            have c51b1 : (t120.toList != ([82] : List UInt8)) = false := bne_eq_false_iff_eq.mpr c51
            clear c51
            have H' := Aside0.mk H
            clear H
            have hcz52_0 : wc.cell? ⟨gb119, 0, none⟩ = some (.int .i64 a0_0) := (blk_cell BK119.out 0).trans rfl
            have hcz52_1 : wc.cell? ⟨gb119, 1, none⟩ = some (.int .i64 a0_1) := (blk_cell BK119.out 1).trans rfl
            have hcz52_2 : wc.cell? ⟨gb119, 2, none⟩ = some (.int .i64 a0_2) := (blk_cell BK119.out 2).trans rfl
            have hcz52_3 : wc.cell? ⟨gb119, 3, none⟩ = some (.int .i64 a0_3) := (blk_cell BK119.out 3).trans rfl
            have hcz52_4 : wc.cell? ⟨gb119, 4, none⟩ = some (.int .i64 a0_4) := (blk_cell BK119.out 4).trans rfl
            have hfz52_0 := blk_frozen BK119.out 0
            have hfz52_1 := blk_frozen BK119.out 1
            have hfz52_2 := blk_frozen BK119.out 2
            have hfz52_3 := blk_frozen BK119.out 3
            have hfz52_4 := blk_frozen BK119.out 4
            go_wp2
            go_meet
            case rel => exact ⟨_, (false), (by first | rfl | (simp; done) | (simp [*]; done)), H', ⟨by have := HJ2.out; first | omega | exact Nat.le_refl _⟩, ⟨by (with_reducible repeat (first | refine blk_drewN ?_ _ | refine blk_drew ?_ | refine blk_alloc ?_ _)); exact BK119.out⟩, ⟨by repeat (first | (with_reducible first | exact HB.out | apply below_alloc | apply pw_below_drewN | apply below_drew1 | refine below_set ?_ GE119.out) | exact HB.out)⟩⟩
           ·rw [if_neg c51] at H
            have c51b0 : (t120.toList == ([82] : List UInt8)) = false := beq_eq_false_iff_ne.mpr c51
            have c51b1 : (t120.toList != ([82] : List UInt8)) = true := bne_iff_ne.mpr c51
            have H' := Aside0.mk H
            clear H
            have hcz53_0 : wc.cell? ⟨gb119, 0, none⟩ = some (.int .i64 a0_0) := (blk_cell BK119.out 0).trans rfl
            have hcz53_1 : wc.cell? ⟨gb119, 1, none⟩ = some (.int .i64 a0_1) := (blk_cell BK119.out 1).trans rfl
            have hcz53_2 : wc.cell? ⟨gb119, 2, none⟩ = some (.int .i64 a0_2) := (blk_cell BK119.out 2).trans rfl
            have hcz53_3 : wc.cell? ⟨gb119, 3, none⟩ = some (.int .i64 a0_3) := (blk_cell BK119.out 3).trans rfl
            have hcz53_4 : wc.cell? ⟨gb119, 4, none⟩ = some (.int .i64 a0_4) := (blk_cell BK119.out 4).trans rfl
            have hfz53_0 := blk_frozen BK119.out 0
            have hfz53_1 := blk_frozen BK119.out 1
            have hfz53_2 := blk_frozen BK119.out 2
            have hfz53_3 := blk_frozen BK119.out 3
            have hfz53_4 := blk_frozen BK119.out 4
            go_wp2
            go_meet
            case rel => exact ⟨_, ((t120.toList != ([66] : List UInt8))), (by first | rfl | (simp; done) | (simp [*]; done)), H', ⟨by have := HJ2.out; first | omega | exact Nat.le_refl _⟩, ⟨by (with_reducible repeat (first | refine blk_drewN ?_ _ | refine blk_drew ?_ | refine blk_alloc ?_ _)); exact BK119.out⟩, ⟨by repeat (first | (with_reducible first | exact HB.out | apply below_alloc | apply pw_below_drewN | apply below_drew1 | refine below_set ?_ GE119.out) | exact HB.out)⟩⟩
         ·rw [if_neg c48] at H
          have c48b0 : (a0_2 == 0) = false := beq_eq_false_iff_ne.mpr c48
          have c48b1 : (a0_2 != 0) = true := bne_iff_ne.mpr c48
          by_cases c54 : t120.toList = ([85] : List UInt8)
          ·rw [if_pos c54] at H
           have c54b0 : (t120.toList == ([85] : List UInt8)) = true := beq_iff_eq.mpr c54
           have c54b1 : (t120.toList != ([85] : List UInt8)) = false := bne_eq_false_iff_eq.mpr c54
           clear c54
           have H' := Aside0.mk H
           clear H
           have hcz55_0 : wc.cell? ⟨gb119, 0, none⟩ = some (.int .i64 a0_0) := (blk_cell BK119.out 0).trans rfl
           have hcz55_1 : wc.cell? ⟨gb119, 1, none⟩ = some (.int .i64 a0_1) := (blk_cell BK119.out 1).trans rfl
           have hcz55_2 : wc.cell? ⟨gb119, 2, none⟩ = some (.int .i64 a0_2) := (blk_cell BK119.out 2).trans rfl
           have hcz55_3 : wc.cell? ⟨gb119, 3, none⟩ = some (.int .i64 a0_3) := (blk_cell BK119.out 3).trans rfl
           have hcz55_4 : wc.cell? ⟨gb119, 4, none⟩ = some (.int .i64 a0_4) := (blk_cell BK119.out 4).trans rfl
           have hfz55_0 := blk_frozen BK119.out 0
           have hfz55_1 := blk_frozen BK119.out 1
           have hfz55_2 := blk_frozen BK119.out 2
           have hfz55_3 := blk_frozen BK119.out 3
           have hfz55_4 := blk_frozen BK119.out 4
           go_wp2
           go_meet
           case rel => exact ⟨_, (true), (by first | rfl | (simp; done) | (simp [*]; done)), H', ⟨by have := HJ2.out; first | omega | exact Nat.le_refl _⟩, ⟨by (with_reducible repeat (first | refine blk_drewN ?_ _ | refine blk_drew ?_ | refine blk_alloc ?_ _)); exact BK119.out⟩, ⟨by repeat (first | (with_reducible first | exact HB.out | apply below_alloc | apply pw_below_drewN | apply below_drew1 | refine below_set ?_ GE119.out) | exact HB.out)⟩⟩
          ·rw [if_neg c54] at H
           have c54b0 : (t120.toList == ([85] : List UInt8)) = false := beq_eq_false_iff_ne.mpr c54
           have c54b1 : (t120.toList != ([85] : List UInt8)) = true := bne_iff_ne.mpr c54
           by_cases c56 : t120.toList = ([74] : List UInt8)
           ·rw [if_pos c56] at H
            have c56b0 : (t120.toList == ([74] : List UInt8)) = true := beq_iff_eq.mpr c56
            have c56b1 : (t120.toList != ([74] : List UInt8)) = false := bne_eq_false_iff_eq.mpr c56
            clear c56
            have H' := Aside0.mk H
            clear H
            have hcz57_0 : wc.cell? ⟨gb119, 0, none⟩ = some (.int .i64 a0_0) := (blk_cell BK119.out 0).trans rfl
            have hcz57_1 : wc.cell? ⟨gb119, 1, none⟩ = some (.int .i64 a0_1) := (blk_cell BK119.out 1).trans rfl
            have hcz57_2 : wc.cell? ⟨gb119, 2, none⟩ = some (.int .i64 a0_2) := (blk_cell BK119.out 2).trans rfl
            have hcz57_3 : wc.cell? ⟨gb119, 3, none⟩ = some (.int .i64 a0_3) := (blk_cell BK119.out 3).trans rfl
            have hcz57_4 : wc.cell? ⟨gb119, 4, none⟩ = some (.int .i64 a0_4) := (blk_cell BK119.out 4).trans rfl
            have hfz57_0 := blk_frozen BK119.out 0
            have hfz57_1 := blk_frozen BK119.out 1
            have hfz57_2 := blk_frozen BK119.out 2
            have hfz57_3 := blk_frozen BK119.out 3
            have hfz57_4 := blk_frozen BK119.out 4
            go_wp2
            go_meet
            case rel => exact ⟨_, (true), (by first | rfl | (simp; done) | (simp [*]; done)), H', ⟨by have := HJ2.out; first | omega | exact Nat.le_refl _⟩, ⟨by (with_reducible repeat (first | refine blk_drewN ?_ _ | refine blk_drew ?_ | refine blk_alloc ?_ _)); exact BK119.out⟩, ⟨by repeat (first | (with_reducible first | exact HB.out | apply below_alloc | apply pw_below_drewN | apply below_drew1 | refine below_set ?_ GE119.out) | exact HB.out)⟩⟩
           ·rw [if_neg c56] at H
            have c56b0 : (t120.toList == ([74] : List UInt8)) = false := beq_eq_false_iff_ne.mpr c56
            have c56b1 : (t120.toList != ([74] : List UInt8)) = true := bne_iff_ne.mpr c56
            by_cases c58 : a0_3 = 0
            ·rw [if_pos c58] at H
             have c58b0 : (a0_3 == 0) = true := beq_iff_eq.mpr c58
             have c58b1 : (a0_3 != 0) = false := bne_eq_false_iff_eq.mpr c58
             clear c58
             have H' := Aside0.mk H
             clear H
             have hcz59_0 : wc.cell? ⟨gb119, 0, none⟩ = some (.int .i64 a0_0) := (blk_cell BK119.out 0).trans rfl
             have hcz59_1 : wc.cell? ⟨gb119, 1, none⟩ = some (.int .i64 a0_1) := (blk_cell BK119.out 1).trans rfl
             have hcz59_2 : wc.cell? ⟨gb119, 2, none⟩ = some (.int .i64 a0_2) := (blk_cell BK119.out 2).trans rfl
             have hcz59_3 : wc.cell? ⟨gb119, 3, none⟩ = some (.int .i64 a0_3) := (blk_cell BK119.out 3).trans rfl
             have hcz59_4 : wc.cell? ⟨gb119, 4, none⟩ = some (.int .i64 a0_4) := (blk_cell BK119.out 4).trans rfl
             have hfz59_0 := blk_frozen BK119.out 0
             have hfz59_1 := blk_frozen BK119.out 1
             have hfz59_2 := blk_frozen BK119.out 2
             have hfz59_3 := blk_frozen BK119.out 3
             have hfz59_4 := blk_frozen BK119.out 4
             go_wp2
             go_meet
             case rel => exact ⟨_, (false), (by first | rfl | (simp; done) | (simp [*]; done)), H', ⟨by have := HJ2.out; first | omega | exact Nat.le_refl _⟩, ⟨by (with_reducible repeat (first | refine blk_drewN ?_ _ | refine blk_drew ?_ | refine blk_alloc ?_ _)); exact BK119.out⟩, ⟨by repeat (first | (with_reducible first | exact HB.out | apply below_alloc | apply pw_below_drewN | apply below_drew1 | refine below_set ?_ GE119.out) | exact HB.out)⟩⟩
            ·rw [if_neg c58] at H
             have c58b0 : (a0_3 == 0) = false := beq_eq_false_iff_ne.mpr c58
             have c58b1 : (a0_3 != 0) = true := bne_iff_ne.mpr c58
             by_cases c60 : t120.toList = ([82] : List UInt8)
             ·rw [if_pos c60] at H
              have c60b0 : (t120.toList == ([82] : List UInt8)) = true := beq_iff_eq.mpr c60
              have c60b1 : (t120.toList != ([82] : List UInt8)) = false := bne_eq_false_iff_eq.mpr c60
              clear c60
              have H' := Aside0.mk H
              clear H
              have hcz61_0 : wc.cell? ⟨gb119, 0, none⟩ = some (.int .i64 a0_0) := (blk_cell BK119.out 0).trans rfl
              have hcz61_1 : wc.cell? ⟨gb119, 1, none⟩ = some (.int .i64 a0_1) := (blk_cell BK119.out 1).trans rfl
              have hcz61_2 : wc.cell? ⟨gb119, 2, none⟩ = some (.int .i64 a0_2) := (blk_cell BK119.out 2).trans rfl
              have hcz61_3 : wc.cell? ⟨gb119, 3, none⟩ = some (.int .i64 a0_3) := (blk_cell BK119.out 3).trans rfl
              have hcz61_4 : wc.cell? ⟨gb119, 4, none⟩ = some (.int .i64 a0_4) := (blk_cell BK119.out 4).trans rfl
              have hfz61_0 := blk_frozen BK119.out 0
              have hfz61_1 := blk_frozen BK119.out 1
              have hfz61_2 := blk_frozen BK119.out 2
              have hfz61_3 := blk_frozen BK119.out 3
              have hfz61_4 := blk_frozen BK119.out 4
              go_wp2
              go_meet
              case rel => exact ⟨_, (false), (by first | rfl | (simp; done) | (simp [*]; done)), H', ⟨by have := HJ2.out; first | omega | exact Nat.le_refl _⟩, ⟨by (with_reducible repeat (first | refine blk_drewN ?_ _ | refine blk_drew ?_ | refine blk_alloc ?_ _)); exact BK119.out⟩, ⟨by repeat (first | (with_reducible first | exact HB.out | apply below_alloc | apply pw_below_drewN | apply below_drew1 | refine below_set ?_ GE119.out) | exact HB.out)⟩⟩
             ·rw [if_neg c60] at H
              have c60b0 : (t120.toList == ([82] : List UInt8)) = false := beq_eq_false_iff_ne.mpr c60
              have c60b1 : (t120.toList != ([82] : List UInt8)) = true := bne_iff_ne.mpr c60
              have H' := Aside0.mk H
              clear H
              have hcz62_0 : wc.cell? ⟨gb119, 0, none⟩ = some (.int .i64 a0_0) := (blk_cell BK119.out 0).trans rfl
              have hcz62_1 : wc.cell? ⟨gb119, 1, none⟩ = some (.int .i64 a0_1) := (blk_cell BK119.out 1).trans rfl
              have hcz62_2 : wc.cell? ⟨gb119, 2, none⟩ = some (.int .i64 a0_2) := (blk_cell BK119.out 2).trans rfl
              have hcz62_3 : wc.cell? ⟨gb119, 3, none⟩ = some (.int .i64 a0_3) := (blk_cell BK119.out 3).trans rfl
              have hcz62_4 : wc.cell? ⟨gb119, 4, none⟩ = some (.int .i64 a0_4) := (blk_cell BK119.out 4).trans rfl
              have hfz62_0 := blk_frozen BK119.out 0
              have hfz62_1 := blk_frozen BK119.out 1
              have hfz62_2 := blk_frozen BK119.out 2
              have hfz62_3 := blk_frozen BK119.out 3
              have hfz62_4 := blk_frozen BK119.out 4
              go_wp2
              go_meet
              case rel => exact ⟨_, ((t120.toList != ([66] : List UInt8))), (by first | rfl | (simp; done) | (simp [*]; done)), H', ⟨by have := HJ2.out; first | omega | exact Nat.le_refl _⟩, ⟨by (with_reducible repeat (first | refine blk_drewN ?_ _ | refine blk_drew ?_ | refine blk_alloc ?_ _)); exact BK119.out⟩, ⟨by repeat (first | (with_reducible first | exact HB.out | apply below_alloc | apply pw_below_drewN | apply below_drew1 | refine below_set ?_ GE119.out) | exact HB.out)⟩⟩
    case rest =>
     clear HC19
     try clear c1
     try clear c2
     try clear p2
     try clear c3
     try clear c4
     try clear c5
     try clear c6
     try clear c18
     try clear c20
     try clear c20b0
     try clear c20b1
     try clear c21
     try clear c21b0
     try clear c21b1
     try clear c22
     try clear c22b0
     try clear c22b1
     try clear c24
     try clear c24b0
     try clear c24b1
     try clear c26
     try clear c26b0
     try clear c26b1
     try clear c29
     try clear c29b0
     try clear c29b1
     try clear c31
     try clear c31b0
     try clear c31b1
     try clear c33
     try clear c33b0
     try clear c33b1
     try clear c35
     try clear c35b0
     try clear c35b1
     try clear c37
     try clear c37b0
     try clear c37b1
     try clear c39
     try clear c39b0
     try clear c39b1
     try clear c42
     try clear c42b0
     try clear c42b1
     try clear c44
     try clear c44b0
     try clear c44b1
     try clear c46
     try clear c46b0
     try clear c46b1
     try clear c48
     try clear c48b0
     try clear c48b1
     try clear c49
     try clear c49b0
     try clear c49b1
     try clear c51
     try clear c51b0
     try clear c51b1
     try clear c54
     try clear c54b0
     try clear c54b1
     try clear c56
     try clear c56b0
     try clear c56b1
     try clear c58
     try clear c58b0
     try clear c58b1
     try clear c60
     try clear c60b0
     try clear c60b1
     try clear hcz10_2
     try clear hcz10_3
     try clear hcz10_4
     try clear hcz12_0
     try clear hcz12_1
     try clear hcz12_2
     try clear hcz12_3
     try clear hcz12_4
     try clear hcz14_0
     try clear hcz14_1
     try clear hcz14_2
     try clear hcz14_3
     try clear hcz14_4
     try clear hcz16_0
     try clear hcz16_1
     try clear hcz16_2
     try clear hcz16_3
     try clear hcz16_4
     try clear hcz17_0
     try clear hcz17_1
     try clear hcz17_2
     try clear hcz17_3
     try clear hcz17_4
     try clear hcz23_0
     try clear hcz23_1
     try clear hcz23_2
     try clear hcz23_3
     try clear hcz23_4
     try clear hcz25_0
     try clear hcz25_1
     try clear hcz25_2
     try clear hcz25_3
     try clear hcz25_4
     try clear hcz27_0
     try clear hcz27_1
     try clear hcz27_2
     try clear hcz27_3
     try clear hcz27_4
     try clear hcz28_0
     try clear hcz28_1
     try clear hcz28_2
     try clear hcz28_3
     try clear hcz28_4
     try clear hcz30_0
     try clear hcz30_1
     try clear hcz30_2
     try clear hcz30_3
     try clear hcz30_4
     try clear hcz32_0
     try clear hcz32_1
     try clear hcz32_2
     try clear hcz32_3
     try clear hcz32_4
     try clear hcz34_0
     try clear hcz34_1
     try clear hcz34_2
     try clear hcz34_3
     try clear hcz34_4
     try clear hcz36_0
     try clear hcz36_1
     try clear hcz36_2
     try clear hcz36_3
     try clear hcz36_4
     try clear hcz38_0
     try clear hcz38_1
     try clear hcz38_2
     try clear hcz38_3
     try clear hcz38_4
     try clear hcz40_0
     try clear hcz40_1
     try clear hcz40_2
     try clear hcz40_3
     try clear hcz40_4
     try clear hcz41_0
     try clear hcz41_1
     try clear hcz41_2
     try clear hcz41_3
     try clear hcz41_4
     try clear hcz43_0
     try clear hcz43_1
     try clear hcz43_2
     try clear hcz43_3
     try clear hcz43_4
     try clear hcz45_0
     try clear hcz45_1
     try clear hcz45_2
     try clear hcz45_3
     try clear hcz45_4
     try clear hcz47_0
     try clear hcz47_1
     try clear hcz47_2
     try clear hcz47_3
     try clear hcz47_4
     try clear hcz50_0
     try clear hcz50_1
     try clear hcz50_2
     try clear hcz50_3
     try clear hcz50_4
     try clear hcz52_0
     try clear hcz52_1
     try clear hcz52_2
     try clear hcz52_3
     try clear hcz52_4
     try clear hcz53_0
     try clear hcz53_1
     try clear hcz53_2
     try clear hcz53_3
     try clear hcz53_4
     try clear hcz55_0
     try clear hcz55_1
     try clear hcz55_2
     try clear hcz55_3
     try clear hcz55_4
     try clear hcz57_0
     try clear hcz57_1
     try clear hcz57_2
     try clear hcz57_3
     try clear hcz57_4
     try clear hcz59_0
     try clear hcz59_1
     try clear hcz59_2
     try clear hcz59_3
     try clear hcz59_4
     try clear hcz5_0
     try clear hcz5_1
     try clear hcz5_2
     try clear hcz5_3
     try clear hcz5_4
     try clear hcz61_0
     try clear hcz61_1
     try clear hcz61_2
     try clear hcz61_3
     try clear hcz61_4
     try clear hcz62_0
     try clear hcz62_1
     try clear hcz62_2
     try clear hcz62_3
     try clear hcz62_4
     try clear hcz8_0
     try clear hcz8_1
     try clear hcz8_2
     try clear hcz8_3
     try clear hcz8_4
     try clear hfz10_0
     try clear hfz10_1
     try clear hfz10_2
     try clear hfz10_3
     try clear hfz10_4
     try clear hfz12_0
     try clear hfz12_1
     try clear hfz12_2
     try clear hfz12_3
     try clear hfz12_4
     try clear hfz14_0
     try clear hfz14_1
     try clear hfz14_2
     try clear hfz14_3
     try clear hfz14_4
     try clear hfz16_0
     try clear hfz16_1
     try clear hfz16_2
     try clear hfz16_3
     try clear hfz16_4
     try clear hfz17_0
     try clear hfz17_1
     try clear hfz17_2
     try clear hfz17_3
     try clear hfz17_4
     try clear hfz23_0
     try clear hfz23_1
     try clear hfz23_2
     try clear hfz23_3
     try clear hfz23_4
     try clear hfz25_0
     try clear hfz25_1
     try clear hfz25_2
     try clear hfz25_3
     try clear hfz25_4
     try clear hfz27_0
     try clear hfz27_1
     try clear hfz27_2
     try clear hfz27_3
     try clear hfz27_4
     try clear hfz28_0
     try clear hfz28_1
     try clear hfz28_2
     try clear hfz28_3
     try clear hfz28_4
     try clear hfz30_0
     try clear hfz30_1
     try clear hfz30_2
     try clear hfz30_3
     try clear hfz30_4
     try clear hfz32_0
     try clear hfz32_1
     try clear hfz32_2
     try clear hfz32_3
     try clear hfz32_4
     try clear hfz34_0
     try clear hfz34_1
     try clear hfz34_2
     try clear hfz34_3
     try clear hfz34_4
     try clear hfz36_0
     try clear hfz36_1
     try clear hfz36_2
     try clear hfz36_3
     try clear hfz36_4
     try clear hfz38_0
     try clear hfz38_1
     try clear hfz38_2
     try clear hfz38_3
     try clear hfz38_4
     try clear hfz40_0
     try clear hfz40_1
     try clear hfz40_2
     try clear hfz40_3
     try clear hfz40_4
     try clear hfz41_0
     try clear hfz41_1
     try clear hfz41_2
     try clear hfz41_3
     try clear hfz41_4
     try clear hfz43_0
     try clear hfz43_1
     try clear hfz43_2
     try clear hfz43_3
     try clear hfz43_4
     try clear hfz45_0
     try clear hfz45_1
     try clear hfz45_2
     try clear hfz45_3
     try clear hfz45_4
     try clear hfz47_0
     try clear hfz47_1
     try clear hfz47_2
     try clear hfz47_3
     try clear hfz47_4
     try clear hfz50_0
     try clear hfz50_1
     try clear hfz50_2
     try clear hfz50_3
     try clear hfz50_4
     try clear hfz52_0
     try clear hfz52_1
     try clear hfz52_2
     try clear hfz52_3
     try clear hfz52_4
     try clear hfz53_0
     try clear hfz53_1
     try clear hfz53_2
     try clear hfz53_3
     try clear hfz53_4
     try clear hfz55_0
     try clear hfz55_1
     try clear hfz55_2
     try clear hfz55_3
     try clear hfz55_4
     try clear hfz57_0
     try clear hfz57_1
     try clear hfz57_2
     try clear hfz57_3
     try clear hfz57_4
     try clear hfz59_0
     try clear hfz59_1
     try clear hfz59_2
     try clear hfz59_3
     try clear hfz59_4
     try clear hfz5_0
     try clear hfz5_1
     try clear hfz5_2
     try clear hfz5_3
     try clear hfz5_4
     try clear hfz61_0
     try clear hfz61_1
     try clear hfz61_2
     try clear hfz61_3
     try clear hfz61_4
     try clear hfz62_0
     try clear hfz62_1
     try clear hfz62_2
     try clear hfz62_3
     try clear hfz62_4
     try clear hfz8_0
     try clear hfz8_1
     try clear hfz8_2
     try clear hfz8_3
     try clear hfz8_4
     obtain ⟨kq, x88_18, rfl, HA, HJ18, BK119, HB⟩ := hcut
     cases kq with
     | zero => exact absurd HA.out (by simp [caponierref02_May.j1])
     | succ kj18 =>
      have H := HA.out
      clear HA
      simp only [caponierref02_May.j1] at H
      by_cases c63 : x88_18 = true
      ·subst c63
       have H1 : (some false) = some r := by rw [if_pos rfl] at H; exact H
       clear H
       have H := H1
       clear H1
       obtain rfl := Option.some.inj H
       go_wp2
       go_ret
       exact ⟨by first | rfl | (simp [errW_none, errW_some] <;> rfl) | (simp [*, errW_none, errW_some] <;> rfl), by repeat (first | (with_reducible first | exact HB.out | apply below_alloc | apply pw_below_drewN | apply below_drew1 | refine below_set ?_ GE119.out) | exact HB.out)⟩
      ·replace c63 := Bool.eq_false_iff.mpr c63
       subst c63
       have H1 : (if t120.toList = ([73] : List UInt8) then (caponierref02_May.j2 kj18 a0_4 t120 (t120.toList == ([73] : List UInt8)) a0_0 a0_1 a0_2 a0_3 a0_4) else (caponierref02_May.j2 kj18 a0_4 t120 (t120.toList == ([83] : List UInt8)) a0_0 a0_1 a0_2 a0_3 a0_4)) = some r := by rw [if_neg (show ¬ (false = true) by decide)] at H; exact H
       clear H
       have H := H1
       clear H1
       have HC64 := Aside0.mk H
       clear H
       have hcz65_0 : wc.cell? ⟨gb119, 0, none⟩ = some (.int .i64 a0_0) := (blk_cell BK119.out 0).trans rfl
       have hcz65_1 : wc.cell? ⟨gb119, 1, none⟩ = some (.int .i64 a0_1) := (blk_cell BK119.out 1).trans rfl
       have hcz65_2 : wc.cell? ⟨gb119, 2, none⟩ = some (.int .i64 a0_2) := (blk_cell BK119.out 2).trans rfl
       have hcz65_3 : wc.cell? ⟨gb119, 3, none⟩ = some (.int .i64 a0_3) := (blk_cell BK119.out 3).trans rfl
       have hcz65_4 : wc.cell? ⟨gb119, 4, none⟩ = some (.int .i64 a0_4) := (blk_cell BK119.out 4).trans rfl
       have hfz65_0 := blk_frozen BK119.out 0
       have hfz65_1 := blk_frozen BK119.out 1
       have hfz65_2 := blk_frozen BK119.out 2
       have hfz65_3 := blk_frozen BK119.out 3
       have hfz65_4 := blk_frozen BK119.out 4
       go_upto_if 92 with (fail)
       go_cut [92] (fun v92 wc => ∃ (kq : Nat) (x92_63 : Bool), v92 = .bool x92_63 ∧ Aside0 (caponierref02_May.j2 kq a0_4 t120 x92_63 a0_0 a0_1 a0_2 a0_3 a0_4 = some r) ∧ Aside0 (kq ≤ kj18) ∧ Aside0 (wc.heap[gb119]? = some (.cells #[.int .i64 a0_0, .int .i64 a0_1, .int .i64 a0_2, .int .i64 a0_3, .int .i64 a0_4] 23 (0, 0))) ∧ Aside0 (Below w.heap.size w wc))
       case first =>
        have H := HC64.out
        clear HC64
        by_cases c66 : t120.toList = ([73] : List UInt8)
        ·rw [if_pos c66] at H
         have c66b0 : (t120.toList == ([73] : List UInt8)) = true := beq_iff_eq.mpr c66
         have c66b1 : (t120.toList != ([73] : List UInt8)) = false := bne_eq_false_iff_eq.mpr c66
         clear c66
         (first | rw [c66b0] | (simp only [i64_w, i32_w]; rw [c66b0]) | skip)
         have H' := Aside0.mk H
         clear H
         go_wp2
         go_meet
         case rel => exact ⟨_, ((t120.toList == ([73] : List UInt8))), (by first | rfl | (simp; done) | (simp [*]; done)), H', ⟨by have := HJ2.out; have := HJ18.out; first | omega | exact Nat.le_refl _⟩, ⟨by (with_reducible repeat (first | refine blk_drewN ?_ _ | refine blk_drew ?_ | refine blk_alloc ?_ _)); exact BK119.out⟩, ⟨by repeat (first | (with_reducible first | exact HB.out | apply below_alloc | apply pw_below_drewN | apply below_drew1 | refine below_set ?_ GE119.out) | exact HB.out)⟩⟩
        ·rw [if_neg c66] at H
         have c66b0 : (t120.toList == ([73] : List UInt8)) = false := beq_eq_false_iff_ne.mpr c66
         have c66b1 : (t120.toList != ([73] : List UInt8)) = true := bne_iff_ne.mpr c66
         (first | rw [c66b0] | (simp only [i64_w, i32_w]; rw [c66b0]) | skip)
         have H' := Aside0.mk H
         clear H
         go_wp2
         go_meet
         case rel => exact ⟨_, ((t120.toList == ([83] : List UInt8))), (by first | rfl | (simp; done) | (simp [*]; done)), H', ⟨by have := HJ2.out; have := HJ18.out; first | omega | exact Nat.le_refl _⟩, ⟨by (with_reducible repeat (first | refine blk_drewN ?_ _ | refine blk_drew ?_ | refine blk_alloc ?_ _)); exact BK119.out⟩, ⟨by repeat (first | (with_reducible first | exact HB.out | apply below_alloc | apply pw_below_drewN | apply below_drew1 | refine below_set ?_ GE119.out) | exact HB.out)⟩⟩
       case rest =>
        clear HC64
        try clear c1
        try clear c2
        try clear p2
        try clear c3
        try clear c4
        try clear c5
        try clear c6
        try clear c18
        try clear c20
        try clear c20b0
        try clear c20b1
        try clear c21
        try clear c21b0
        try clear c21b1
        try clear c22
        try clear c22b0
        try clear c22b1
        try clear c24
        try clear c24b0
        try clear c24b1
        try clear c26
        try clear c26b0
        try clear c26b1
        try clear c29
        try clear c29b0
        try clear c29b1
        try clear c31
        try clear c31b0
        try clear c31b1
        try clear c33
        try clear c33b0
        try clear c33b1
        try clear c35
        try clear c35b0
        try clear c35b1
        try clear c37
        try clear c37b0
        try clear c37b1
        try clear c39
        try clear c39b0
        try clear c39b1
        try clear c42
        try clear c42b0
        try clear c42b1
        try clear c44
        try clear c44b0
        try clear c44b1
        try clear c46
        try clear c46b0
        try clear c46b1
        try clear c48
        try clear c48b0
        try clear c48b1
        try clear c49
        try clear c49b0
        try clear c49b1
        try clear c51
        try clear c51b0
        try clear c51b1
        try clear c54
        try clear c54b0
        try clear c54b1
        try clear c56
        try clear c56b0
        try clear c56b1
        try clear c58
        try clear c58b0
        try clear c58b1
        try clear c60
        try clear c60b0
        try clear c60b1
        try clear c63
        try clear c66
        try clear c66b0
        try clear c66b1
        try clear hcz10_2
        try clear hcz10_3
        try clear hcz10_4
        try clear hcz12_0
        try clear hcz12_1
        try clear hcz12_2
        try clear hcz12_3
        try clear hcz12_4
        try clear hcz14_0
        try clear hcz14_1
        try clear hcz14_2
        try clear hcz14_3
        try clear hcz14_4
        try clear hcz16_0
        try clear hcz16_1
        try clear hcz16_2
        try clear hcz16_3
        try clear hcz16_4
        try clear hcz17_0
        try clear hcz17_1
        try clear hcz17_2
        try clear hcz17_3
        try clear hcz17_4
        try clear hcz23_0
        try clear hcz23_1
        try clear hcz23_2
        try clear hcz23_3
        try clear hcz23_4
        try clear hcz25_0
        try clear hcz25_1
        try clear hcz25_2
        try clear hcz25_3
        try clear hcz25_4
        try clear hcz27_0
        try clear hcz27_1
        try clear hcz27_2
        try clear hcz27_3
        try clear hcz27_4
        try clear hcz28_0
        try clear hcz28_1
        try clear hcz28_2
        try clear hcz28_3
        try clear hcz28_4
        try clear hcz30_0
        try clear hcz30_1
        try clear hcz30_2
        try clear hcz30_3
        try clear hcz30_4
        try clear hcz32_0
        try clear hcz32_1
        try clear hcz32_2
        try clear hcz32_3
        try clear hcz32_4
        try clear hcz34_0
        try clear hcz34_1
        try clear hcz34_2
        try clear hcz34_3
        try clear hcz34_4
        try clear hcz36_0
        try clear hcz36_1
        try clear hcz36_2
        try clear hcz36_3
        try clear hcz36_4
        try clear hcz38_0
        try clear hcz38_1
        try clear hcz38_2
        try clear hcz38_3
        try clear hcz38_4
        try clear hcz40_0
        try clear hcz40_1
        try clear hcz40_2
        try clear hcz40_3
        try clear hcz40_4
        try clear hcz41_0
        try clear hcz41_1
        try clear hcz41_2
        try clear hcz41_3
        try clear hcz41_4
        try clear hcz43_0
        try clear hcz43_1
        try clear hcz43_2
        try clear hcz43_3
        try clear hcz43_4
        try clear hcz45_0
        try clear hcz45_1
        try clear hcz45_2
        try clear hcz45_3
        try clear hcz45_4
        try clear hcz47_0
        try clear hcz47_1
        try clear hcz47_2
        try clear hcz47_3
        try clear hcz47_4
        try clear hcz50_0
        try clear hcz50_1
        try clear hcz50_2
        try clear hcz50_3
        try clear hcz50_4
        try clear hcz52_0
        try clear hcz52_1
        try clear hcz52_2
        try clear hcz52_3
        try clear hcz52_4
        try clear hcz53_0
        try clear hcz53_1
        try clear hcz53_2
        try clear hcz53_3
        try clear hcz53_4
        try clear hcz55_0
        try clear hcz55_1
        try clear hcz55_2
        try clear hcz55_3
        try clear hcz55_4
        try clear hcz57_0
        try clear hcz57_1
        try clear hcz57_2
        try clear hcz57_3
        try clear hcz57_4
        try clear hcz59_0
        try clear hcz59_1
        try clear hcz59_2
        try clear hcz59_3
        try clear hcz59_4
        try clear hcz5_0
        try clear hcz5_1
        try clear hcz5_2
        try clear hcz5_3
        try clear hcz5_4
        try clear hcz61_0
        try clear hcz61_1
        try clear hcz61_2
        try clear hcz61_3
        try clear hcz61_4
        try clear hcz62_0
        try clear hcz62_1
        try clear hcz62_2
        try clear hcz62_3
        try clear hcz62_4
        try clear hcz65_0
        try clear hcz65_1
        try clear hcz65_2
        try clear hcz65_3
        try clear hcz65_4
        try clear hcz8_0
        try clear hcz8_1
        try clear hcz8_2
        try clear hcz8_3
        try clear hcz8_4
        try clear hfz10_0
        try clear hfz10_1
        try clear hfz10_2
        try clear hfz10_3
        try clear hfz10_4
        try clear hfz12_0
        try clear hfz12_1
        try clear hfz12_2
        try clear hfz12_3
        try clear hfz12_4
        try clear hfz14_0
        try clear hfz14_1
        try clear hfz14_2
        try clear hfz14_3
        try clear hfz14_4
        try clear hfz16_0
        try clear hfz16_1
        try clear hfz16_2
        try clear hfz16_3
        try clear hfz16_4
        try clear hfz17_0
        try clear hfz17_1
        try clear hfz17_2
        try clear hfz17_3
        try clear hfz17_4
        try clear hfz23_0
        try clear hfz23_1
        try clear hfz23_2
        try clear hfz23_3
        try clear hfz23_4
        try clear hfz25_0
        try clear hfz25_1
        try clear hfz25_2
        try clear hfz25_3
        try clear hfz25_4
        try clear hfz27_0
        try clear hfz27_1
        try clear hfz27_2
        try clear hfz27_3
        try clear hfz27_4
        try clear hfz28_0
        try clear hfz28_1
        try clear hfz28_2
        try clear hfz28_3
        try clear hfz28_4
        try clear hfz30_0
        try clear hfz30_1
        try clear hfz30_2
        try clear hfz30_3
        try clear hfz30_4
        try clear hfz32_0
        try clear hfz32_1
        try clear hfz32_2
        try clear hfz32_3
        try clear hfz32_4
        try clear hfz34_0
        try clear hfz34_1
        try clear hfz34_2
        try clear hfz34_3
        try clear hfz34_4
        try clear hfz36_0
        try clear hfz36_1
        try clear hfz36_2
        try clear hfz36_3
        try clear hfz36_4
        try clear hfz38_0
        try clear hfz38_1
        try clear hfz38_2
        try clear hfz38_3
        try clear hfz38_4
        try clear hfz40_0
        try clear hfz40_1
        try clear hfz40_2
        try clear hfz40_3
        try clear hfz40_4
        try clear hfz41_0
        try clear hfz41_1
        try clear hfz41_2
        try clear hfz41_3
        try clear hfz41_4
        try clear hfz43_0
        try clear hfz43_1
        try clear hfz43_2
        try clear hfz43_3
        try clear hfz43_4
        try clear hfz45_0
        try clear hfz45_1
        try clear hfz45_2
        try clear hfz45_3
        try clear hfz45_4
        try clear hfz47_0
        try clear hfz47_1
        try clear hfz47_2
        try clear hfz47_3
        try clear hfz47_4
        try clear hfz50_0
        try clear hfz50_1
        try clear hfz50_2
        try clear hfz50_3
        try clear hfz50_4
        try clear hfz52_0
        try clear hfz52_1
        try clear hfz52_2
        try clear hfz52_3
        try clear hfz52_4
        try clear hfz53_0
        try clear hfz53_1
        try clear hfz53_2
        try clear hfz53_3
        try clear hfz53_4
        try clear hfz55_0
        try clear hfz55_1
        try clear hfz55_2
        try clear hfz55_3
        try clear hfz55_4
        try clear hfz57_0
        try clear hfz57_1
        try clear hfz57_2
        try clear hfz57_3
        try clear hfz57_4
        try clear hfz59_0
        try clear hfz59_1
        try clear hfz59_2
        try clear hfz59_3
        try clear hfz59_4
        try clear hfz5_0
        try clear hfz5_1
        try clear hfz5_2
        try clear hfz5_3
        try clear hfz5_4
        try clear hfz61_0
        try clear hfz61_1
        try clear hfz61_2
        try clear hfz61_3
        try clear hfz61_4
        try clear hfz62_0
        try clear hfz62_1
        try clear hfz62_2
        try clear hfz62_3
        try clear hfz62_4
        try clear hfz65_0
        try clear hfz65_1
        try clear hfz65_2
        try clear hfz65_3
        try clear hfz65_4
        try clear hfz8_0
        try clear hfz8_1
        try clear hfz8_2
        try clear hfz8_3
        try clear hfz8_4
        try clear p2
        obtain ⟨kq, x92_63, rfl, HA, HJ63, BK119, HB⟩ := hcut
        cases kq with
        | zero => exact absurd HA.out (by simp [caponierref02_May.j2])
        | succ kj63 =>
         have H := HA.out
         clear HA
         simp only [caponierref02_May.j2] at H
         by_cases c67 : x92_63 = true
         ·subst c67
          have H1 : ((caponierref02_Shift.f a0_0).bind fun t121 => (if t121 = true then (if a0_4 ≥ 0 then (some (decide (a0_4 ≤ 63))) else (some false)) else (if a0_4 ≥ (-2048) then (some (decide (a0_4 ≤ 2047))) else (some false)))) = some r := by rw [if_pos rfl] at H; exact H
          clear H
          have H := H1
          clear H1
          replace H := Option.bind_eq_some_iff.mp H
          obtain ⟨t121, A680, H⟩ := H
          replace H : (if t121 = true then (if a0_4 ≥ 0 then (some (decide (a0_4 ≤ 63))) else (some false)) else (if a0_4 ≥ (-2048) then (some (decide (a0_4 ≤ 2047))) else (some false))) = some r := H
          have A68 := Aside0.mk A680
          clear A680
          by_cases c69 : t121 = true
          ·subst c69
           have H1 : (if a0_4 ≥ 0 then (some (decide (a0_4 ≤ 63))) else (some false)) = some r := by rw [if_pos rfl] at H; exact H
           clear H
           have H := H1
           clear H1
           by_cases c70 : a0_4 ≥ 0
           ·rw [if_pos c70] at H
            have c70b0 : decide (0 ≤ a0_4) = true := decide_eq_true c70
            clear c70
            obtain rfl := Option.some.inj H
            have hcz71_0 : wc.cell? ⟨gb119, 0, none⟩ = some (.int .i64 a0_0) := (blk_cell BK119.out 0).trans rfl
            have hcz71_1 : wc.cell? ⟨gb119, 1, none⟩ = some (.int .i64 a0_1) := (blk_cell BK119.out 1).trans rfl
            have hcz71_2 : wc.cell? ⟨gb119, 2, none⟩ = some (.int .i64 a0_2) := (blk_cell BK119.out 2).trans rfl
            have hcz71_3 : wc.cell? ⟨gb119, 3, none⟩ = some (.int .i64 a0_3) := (blk_cell BK119.out 3).trans rfl
            have hcz71_4 : wc.cell? ⟨gb119, 4, none⟩ = some (.int .i64 a0_4) := (blk_cell BK119.out 4).trans rfl
            have hfz71_0 := blk_frozen BK119.out 0
            have hfz71_1 := blk_frozen BK119.out 1
            have hfz71_2 := blk_frozen BK119.out 2
            have hfz71_3 := blk_frozen BK119.out 3
            have hfz71_4 := blk_frozen BK119.out 4
            go_wp2_with (first | ((with_reducible refine gate_callee (f := 26) rfl ?_); refine goesL_ (some 97) rfl rfl Tryd.func26 (by kernel_rfl) rfl #[.int .i64 a0_0] rfl (by (try simp only [List.map_toArray, List.map_cons, List.map_nil]); first | done | rfl | (simp only [List.length_drop, List.length_take]; rfl)) ?_; (with_reducible refine (caponierref02_Shift.calls a0_0 true _ A68.out).mono ?_); rintro e w' ⟨rfl, ⟨nd, rfl⟩⟩; refine ⟨_, rfl, ?_⟩))
            go_ret
            exact ⟨by first | rfl | (simp [errW_none, errW_some] <;> rfl) | (simp [*, errW_none, errW_some] <;> rfl), by repeat (first | (with_reducible first | exact HB.out | apply below_alloc | apply pw_below_drewN | apply below_drew1 | refine below_set ?_ GE119.out) | exact HB.out)⟩
           ·rw [if_neg c70] at H
            have c70b0 : decide (0 ≤ a0_4) = false := decide_eq_false c70
            clear c70
            obtain rfl := Option.some.inj H
            have hcz72_0 : wc.cell? ⟨gb119, 0, none⟩ = some (.int .i64 a0_0) := (blk_cell BK119.out 0).trans rfl
            have hcz72_1 : wc.cell? ⟨gb119, 1, none⟩ = some (.int .i64 a0_1) := (blk_cell BK119.out 1).trans rfl
            have hcz72_2 : wc.cell? ⟨gb119, 2, none⟩ = some (.int .i64 a0_2) := (blk_cell BK119.out 2).trans rfl
            have hcz72_3 : wc.cell? ⟨gb119, 3, none⟩ = some (.int .i64 a0_3) := (blk_cell BK119.out 3).trans rfl
            have hcz72_4 : wc.cell? ⟨gb119, 4, none⟩ = some (.int .i64 a0_4) := (blk_cell BK119.out 4).trans rfl
            have hfz72_0 := blk_frozen BK119.out 0
            have hfz72_1 := blk_frozen BK119.out 1
            have hfz72_2 := blk_frozen BK119.out 2
            have hfz72_3 := blk_frozen BK119.out 3
            have hfz72_4 := blk_frozen BK119.out 4
            go_wp2_with (first | ((with_reducible refine gate_callee (f := 26) rfl ?_); refine goesL_ (some 97) rfl rfl Tryd.func26 (by kernel_rfl) rfl #[.int .i64 a0_0] rfl (by (try simp only [List.map_toArray, List.map_cons, List.map_nil]); first | done | rfl | (simp only [List.length_drop, List.length_take]; rfl)) ?_; (with_reducible refine (caponierref02_Shift.calls a0_0 true _ A68.out).mono ?_); rintro e w' ⟨rfl, ⟨nd, rfl⟩⟩; refine ⟨_, rfl, ?_⟩))
            go_ret
            exact ⟨by first | rfl | (simp [errW_none, errW_some] <;> rfl) | (simp [*, errW_none, errW_some] <;> rfl), by repeat (first | (with_reducible first | exact HB.out | apply below_alloc | apply pw_below_drewN | apply below_drew1 | refine below_set ?_ GE119.out) | exact HB.out)⟩
          ·replace c69 := Bool.eq_false_iff.mpr c69
           subst c69
           have H1 : (if a0_4 ≥ (-2048) then (some (decide (a0_4 ≤ 2047))) else (some false)) = some r := by rw [if_neg (show ¬ (false = true) by decide)] at H; exact H
           clear H
           have H := H1
           clear H1
           by_cases c73 : a0_4 ≥ (-2048)
           ·rw [if_pos c73] at H
            have c73b0 : decide ((-2048) ≤ a0_4) = true := decide_eq_true c73
            clear c73
            obtain rfl := Option.some.inj H
            have hcz74_0 : wc.cell? ⟨gb119, 0, none⟩ = some (.int .i64 a0_0) := (blk_cell BK119.out 0).trans rfl
            have hcz74_1 : wc.cell? ⟨gb119, 1, none⟩ = some (.int .i64 a0_1) := (blk_cell BK119.out 1).trans rfl
            have hcz74_2 : wc.cell? ⟨gb119, 2, none⟩ = some (.int .i64 a0_2) := (blk_cell BK119.out 2).trans rfl
            have hcz74_3 : wc.cell? ⟨gb119, 3, none⟩ = some (.int .i64 a0_3) := (blk_cell BK119.out 3).trans rfl
            have hcz74_4 : wc.cell? ⟨gb119, 4, none⟩ = some (.int .i64 a0_4) := (blk_cell BK119.out 4).trans rfl
            have hfz74_0 := blk_frozen BK119.out 0
            have hfz74_1 := blk_frozen BK119.out 1
            have hfz74_2 := blk_frozen BK119.out 2
            have hfz74_3 := blk_frozen BK119.out 3
            have hfz74_4 := blk_frozen BK119.out 4
            go_wp2_with (first | ((with_reducible refine gate_callee (f := 26) rfl ?_); refine goesL_ (some 97) rfl rfl Tryd.func26 (by kernel_rfl) rfl #[.int .i64 a0_0] rfl (by (try simp only [List.map_toArray, List.map_cons, List.map_nil]); first | done | rfl | (simp only [List.length_drop, List.length_take]; rfl)) ?_; (with_reducible refine (caponierref02_Shift.calls a0_0 false _ A68.out).mono ?_); rintro e w' ⟨rfl, ⟨nd, rfl⟩⟩; refine ⟨_, rfl, ?_⟩))
            go_ret
            exact ⟨by first | rfl | (simp [errW_none, errW_some] <;> rfl) | (simp [*, errW_none, errW_some] <;> rfl), by repeat (first | (with_reducible first | exact HB.out | apply below_alloc | apply pw_below_drewN | apply below_drew1 | refine below_set ?_ GE119.out) | exact HB.out)⟩
           ·rw [if_neg c73] at H
            have c73b0 : decide ((-2048) ≤ a0_4) = false := decide_eq_false c73
            clear c73
            obtain rfl := Option.some.inj H
            have hcz75_0 : wc.cell? ⟨gb119, 0, none⟩ = some (.int .i64 a0_0) := (blk_cell BK119.out 0).trans rfl
            have hcz75_1 : wc.cell? ⟨gb119, 1, none⟩ = some (.int .i64 a0_1) := (blk_cell BK119.out 1).trans rfl
            have hcz75_2 : wc.cell? ⟨gb119, 2, none⟩ = some (.int .i64 a0_2) := (blk_cell BK119.out 2).trans rfl
            have hcz75_3 : wc.cell? ⟨gb119, 3, none⟩ = some (.int .i64 a0_3) := (blk_cell BK119.out 3).trans rfl
            have hcz75_4 : wc.cell? ⟨gb119, 4, none⟩ = some (.int .i64 a0_4) := (blk_cell BK119.out 4).trans rfl
            have hfz75_0 := blk_frozen BK119.out 0
            have hfz75_1 := blk_frozen BK119.out 1
            have hfz75_2 := blk_frozen BK119.out 2
            have hfz75_3 := blk_frozen BK119.out 3
            have hfz75_4 := blk_frozen BK119.out 4
            go_wp2_with (first | ((with_reducible refine gate_callee (f := 26) rfl ?_); refine goesL_ (some 97) rfl rfl Tryd.func26 (by kernel_rfl) rfl #[.int .i64 a0_0] rfl (by (try simp only [List.map_toArray, List.map_cons, List.map_nil]); first | done | rfl | (simp only [List.length_drop, List.length_take]; rfl)) ?_; (with_reducible refine (caponierref02_Shift.calls a0_0 false _ A68.out).mono ?_); rintro e w' ⟨rfl, ⟨nd, rfl⟩⟩; refine ⟨_, rfl, ?_⟩))
            go_ret
            exact ⟨by first | rfl | (simp [errW_none, errW_some] <;> rfl) | (simp [*, errW_none, errW_some] <;> rfl), by repeat (first | (with_reducible first | exact HB.out | apply below_alloc | apply pw_below_drewN | apply below_drew1 | refine below_set ?_ GE119.out) | exact HB.out)⟩
         ·replace c67 := Bool.eq_false_iff.mpr c67
          subst c67
          have H1 : (if t120.toList = ([66] : List UInt8) then (if a0_4 ≥ (-4096) then (if a0_4 ≤ 4094 then (some ((Int.tmod a0_4 2) == 0)) else (some false)) else (some false)) else (if t120.toList = ([85] : List UInt8) then (if a0_4 ≥ (-2147483648) then (if a0_4 ≤ 2147483647 then (some ((Int.tmod a0_4 4096) == 0)) else (some false)) else (some false)) else (if t120.toList = ([74] : List UInt8) then (if a0_4 ≥ (-1048576) then (if a0_4 ≤ 1048574 then (some ((Int.tmod a0_4 2) == 0)) else (some false)) else (some false)) else (some (a0_4 == 0))))) = some r := by rw [if_neg (show ¬ (false = true) by decide)] at H; exact H
          clear H
          have H := H1
          clear H1
          by_cases c76 : t120.toList = ([66] : List UInt8)
          ·rw [if_pos c76] at H
           have c76b0 : (t120.toList == ([66] : List UInt8)) = true := beq_iff_eq.mpr c76
           have c76b1 : (t120.toList != ([66] : List UInt8)) = false := bne_eq_false_iff_eq.mpr c76
           clear c76
           by_cases c77 : a0_4 ≥ (-4096)
           ·rw [if_pos c77] at H
            have c77b0 : decide ((-4096) ≤ a0_4) = true := decide_eq_true c77
            clear c77
            by_cases c78 : a0_4 ≤ 4094
            ·rw [if_pos c78] at H
             have c78b0 : decide (a0_4 ≤ 4094) = true := decide_eq_true c78
             clear c78
             obtain rfl := Option.some.inj H
             go_wp2
             go_ret
             exact ⟨by first | rfl | (simp [errW_none, errW_some] <;> rfl) | (simp [*, errW_none, errW_some] <;> rfl), by repeat (first | (with_reducible first | exact HB.out | apply below_alloc | apply pw_below_drewN | apply below_drew1 | refine below_set ?_ GE119.out) | exact HB.out)⟩
            ·rw [if_neg c78] at H
             have c78b0 : decide (a0_4 ≤ 4094) = false := decide_eq_false c78
             clear c78
             obtain rfl := Option.some.inj H
             go_wp2
             go_ret
             exact ⟨by first | rfl | (simp [errW_none, errW_some] <;> rfl) | (simp [*, errW_none, errW_some] <;> rfl), by repeat (first | (with_reducible first | exact HB.out | apply below_alloc | apply pw_below_drewN | apply below_drew1 | refine below_set ?_ GE119.out) | exact HB.out)⟩
           ·rw [if_neg c77] at H
            have c77b0 : decide ((-4096) ≤ a0_4) = false := decide_eq_false c77
            clear c77
            obtain rfl := Option.some.inj H
            go_wp2
            go_ret
            exact ⟨by first | rfl | (simp [errW_none, errW_some] <;> rfl) | (simp [*, errW_none, errW_some] <;> rfl), by repeat (first | (with_reducible first | exact HB.out | apply below_alloc | apply pw_below_drewN | apply below_drew1 | refine below_set ?_ GE119.out) | exact HB.out)⟩
          ·rw [if_neg c76] at H
           have c76b0 : (t120.toList == ([66] : List UInt8)) = false := beq_eq_false_iff_ne.mpr c76
           have c76b1 : (t120.toList != ([66] : List UInt8)) = true := bne_iff_ne.mpr c76
           by_cases c79 : t120.toList = ([85] : List UInt8)
           ·rw [if_pos c79] at H
            have c79b0 : (t120.toList == ([85] : List UInt8)) = true := beq_iff_eq.mpr c79
            have c79b1 : (t120.toList != ([85] : List UInt8)) = false := bne_eq_false_iff_eq.mpr c79
            clear c79
            by_cases c80 : a0_4 ≥ (-2147483648)
            ·rw [if_pos c80] at H
             have c80b0 : decide ((-2147483648) ≤ a0_4) = true := decide_eq_true c80
             clear c80
             by_cases c81 : a0_4 ≤ 2147483647
             ·rw [if_pos c81] at H
              have c81b0 : decide (a0_4 ≤ 2147483647) = true := decide_eq_true c81
              clear c81
              obtain rfl := Option.some.inj H
              go_wp2
              go_ret
              exact ⟨by first | rfl | (simp [errW_none, errW_some] <;> rfl) | (simp [*, errW_none, errW_some] <;> rfl), by repeat (first | (with_reducible first | exact HB.out | apply below_alloc | apply pw_below_drewN | apply below_drew1 | refine below_set ?_ GE119.out) | exact HB.out)⟩
             ·rw [if_neg c81] at H
              have c81b0 : decide (a0_4 ≤ 2147483647) = false := decide_eq_false c81
              clear c81
              obtain rfl := Option.some.inj H
              go_wp2
              go_ret
              exact ⟨by first | rfl | (simp [errW_none, errW_some] <;> rfl) | (simp [*, errW_none, errW_some] <;> rfl), by repeat (first | (with_reducible first | exact HB.out | apply below_alloc | apply pw_below_drewN | apply below_drew1 | refine below_set ?_ GE119.out) | exact HB.out)⟩
            ·rw [if_neg c80] at H
             have c80b0 : decide ((-2147483648) ≤ a0_4) = false := decide_eq_false c80
             clear c80
             obtain rfl := Option.some.inj H
             go_wp2
             go_ret
             exact ⟨by first | rfl | (simp [errW_none, errW_some] <;> rfl) | (simp [*, errW_none, errW_some] <;> rfl), by repeat (first | (with_reducible first | exact HB.out | apply below_alloc | apply pw_below_drewN | apply below_drew1 | refine below_set ?_ GE119.out) | exact HB.out)⟩
           ·rw [if_neg c79] at H
            have c79b0 : (t120.toList == ([85] : List UInt8)) = false := beq_eq_false_iff_ne.mpr c79
            have c79b1 : (t120.toList != ([85] : List UInt8)) = true := bne_iff_ne.mpr c79
            by_cases c82 : t120.toList = ([74] : List UInt8)
            ·rw [if_pos c82] at H
             have c82b0 : (t120.toList == ([74] : List UInt8)) = true := beq_iff_eq.mpr c82
             have c82b1 : (t120.toList != ([74] : List UInt8)) = false := bne_eq_false_iff_eq.mpr c82
             clear c82
             by_cases c83 : a0_4 ≥ (-1048576)
             ·rw [if_pos c83] at H
              have c83b0 : decide ((-1048576) ≤ a0_4) = true := decide_eq_true c83
              clear c83
              by_cases c84 : a0_4 ≤ 1048574
              ·rw [if_pos c84] at H
               have c84b0 : decide (a0_4 ≤ 1048574) = true := decide_eq_true c84
               clear c84
               obtain rfl := Option.some.inj H
               go_wp2
               go_ret
               exact ⟨by first | rfl | (simp [errW_none, errW_some] <;> rfl) | (simp [*, errW_none, errW_some] <;> rfl), by repeat (first | (with_reducible first | exact HB.out | apply below_alloc | apply pw_below_drewN | apply below_drew1 | refine below_set ?_ GE119.out) | exact HB.out)⟩
              ·rw [if_neg c84] at H
               have c84b0 : decide (a0_4 ≤ 1048574) = false := decide_eq_false c84
               clear c84
               obtain rfl := Option.some.inj H
               go_wp2
               go_ret
               exact ⟨by first | rfl | (simp [errW_none, errW_some] <;> rfl) | (simp [*, errW_none, errW_some] <;> rfl), by repeat (first | (with_reducible first | exact HB.out | apply below_alloc | apply pw_below_drewN | apply below_drew1 | refine below_set ?_ GE119.out) | exact HB.out)⟩
             ·rw [if_neg c83] at H
              have c83b0 : decide ((-1048576) ≤ a0_4) = false := decide_eq_false c83
              clear c83
              obtain rfl := Option.some.inj H
              go_wp2
              go_ret
              exact ⟨by first | rfl | (simp [errW_none, errW_some] <;> rfl) | (simp [*, errW_none, errW_some] <;> rfl), by repeat (first | (with_reducible first | exact HB.out | apply below_alloc | apply pw_below_drewN | apply below_drew1 | refine below_set ?_ GE119.out) | exact HB.out)⟩
            ·rw [if_neg c82] at H
             have c82b0 : (t120.toList == ([74] : List UInt8)) = false := beq_eq_false_iff_ne.mpr c82
             have c82b1 : (t120.toList != ([74] : List UInt8)) = true := bne_iff_ne.mpr c82
             obtain rfl := Option.some.inj H
             go_wp2
             go_ret
             exact ⟨by first | rfl | (simp [errW_none, errW_some] <;> rfl) | (simp [*, errW_none, errW_some] <;> rfl), by repeat (first | (with_reducible first | exact HB.out | apply below_alloc | apply pw_below_drewN | apply below_drew1 | refine below_set ?_ GE119.out) | exact HB.out)⟩

end Go.Proofs.YtbdlhhajblhmiaaDoor.QInsDecodes
