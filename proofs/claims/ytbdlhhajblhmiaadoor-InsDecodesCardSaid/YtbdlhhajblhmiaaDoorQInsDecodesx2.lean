-- Written by a program of this session (handprint.py) out of the translation: Go functions as Lean functions, and that the Go code comes to their answers; the row of the law.
import Derived.Test.YtbdlhhajblhmiaaDoorQInsDecodesx0
import Derived.Test.YtbdlhhajblhmiaaDoorQInsDecodesx1
namespace Go.Proofs.YtbdlhhajblhmiaaDoor.QInsDecodes
open Go.RowKit Go.Proofs.YtbdlhhajblhmiaaDoorW.PrintWords Go.Proofs.YtbdlhhajblhmiaaDoorW.PrintLast Go.Proofs.YtbdlhhajblhmiaaDoorW.PrintMore
attribute [local go_sem] max2_int min2_int max_two min_two max_three min_three max_four min_four   -- for this text's walks alone
set_option linter.unusedVariables false
set_option linter.unusedSimpArgs false

attribute [local go_sem high] eqA23
/-! ### ins_Encode: function 10 -/
def ins_Encode.f (a0 a1 a2 a3 a4 : Int) : Option (Int × Int) := Go.Proofs.YtbdlhhajblhmiaaDoor.Ins.encO a0 a1 a2 a3 a4
theorem ins_Encode.calls (a0 a1 a2 a3 a4 : Int) (r1 r2 : Int) (w : World) (h : ins_Encode.f a0 a1 a2 a3 a4 = some (r1, r2)) (L : Go.Proofs.YtbdlhhajblhmiaaDoor.Ins.Laid w) :
    Calls Tryd.prog 10 #[.agg #[.int .i64 a0, .int .i64 a1, .int .i64 a2, .int .i64 a3, .int .i64 a4]] w fun e w' => e = .returned (.tuple #[.int .u32 r1, .int .i64 r2]) ∧ Below w.heap.size w w' := Go.Proofs.YtbdlhhajblhmiaaDoor.Ins.enc_calls a0 a1 a2 a3 a4 r1 r2 w h L

/-! ### ins_May: function 12 -/
def ins_May.f (a0 a1 a2 a3 a4 : Int) : Option Bool := Go.Proofs.YtbdlhhajblhmiaaDoor.Ins.mayO a0 a1 a2 a3 a4
theorem ins_May.calls (a0 a1 a2 a3 a4 : Int) (r : Bool) (w : World) (h : ins_May.f a0 a1 a2 a3 a4 = some r) (L : Go.Proofs.YtbdlhhajblhmiaaDoor.Ins.Laid w) :
    Calls Tryd.prog 12 #[.agg #[.int .i64 a0, .int .i64 a1, .int .i64 a2, .int .i64 a3, .int .i64 a4]] w fun e w' => e = .returned (.bool r) ∧ Below w.heap.size w w' := Go.Proofs.YtbdlhhajblhmiaaDoor.Ins.may_calls a0 a1 a2 a3 a4 r w h L

/-! ### ins_Form: function 14 -/
def ins_Form.f (a0 : Int) : Option ByteArray := some (Go.Proofs.YtbdlhhajblhmiaaDoor.Ins.formF a0)
theorem ins_Form.calls (a0 : Int) (r : ByteArray) (w : World) (h : ins_Form.f a0 = some r) (L : Go.Proofs.YtbdlhhajblhmiaaDoor.Ins.Laid w) :
    Calls Tryd.prog 14 #[.int .i64 a0] w fun e w' => e = .returned (.string r) ∧ Drawn0 w w' := Go.Proofs.YtbdlhhajblhmiaaDoor.Ins.form_calls a0 r w h L

/-! ### ins_Decode: function 16 -/
def ins_Decode.f (a0 : Int) : Option (Int × Int × Int × Int × Int × Int) := Go.Proofs.YtbdlhhajblhmiaaDoor.Ins.decO a0
theorem ins_Decode.calls (a0 : Int) (r1 r2 r3 r4 r5 r6 : Int) (w : World) (h : ins_Decode.f a0 = some (r1, r2, r3, r4, r5, r6)) (L : Go.Proofs.YtbdlhhajblhmiaaDoor.Ins.Laid w) :
    Calls Tryd.prog 16 #[.int .u32 a0] w fun e w' => e = .returned (.tuple #[.agg #[.int .i64 r1, .int .i64 r2, .int .i64 r3, .int .i64 r4, .int .i64 r5], .int .i64 r6]) ∧ Below w.heap.size w w' := Go.Proofs.YtbdlhhajblhmiaaDoor.Ins.dec_calls a0 r1 r2 r3 r4 r5 r6 w h L

/-! ### caponierlaw02_awake: function 9 -/
def caponierlaw02_awake.f  : Option (Bool) := (ins_Encode.f 16 1 0 0 (-1)).bind fun bt101 => ((ins_Decode.f 4293918867).bind fun bt103 => ((ins_Decode.f 0).bind fun bt110 => (if bt101.2 = 0 then (if bt101.1 = 4293918867 then (if bt103.2.2.2.2.2 = 0 then (if (bt103.1 == 16 && (bt103.2.1 == 1 && (bt103.2.2.1 == 0 && (bt103.2.2.2.1 == 0 && (bt103.2.2.2.2.1 == (-1)))))) = true then (if bt110.2.2.2.2.2 = 3 then ((ins_Form.f 40).bind fun t117 => (if t117.toList = ([74] : List UInt8) then ((ins_May.f bt103.1 bt103.2.1 bt103.2.2.1 bt103.2.2.2.1 bt103.2.2.2.2.1).bind fun t118 => (some t118)) else (some false))) else (some false)) else (some false)) else (some false)) else (some false)) else (some false))))
theorem awk_enc {a b : Int} (h : ins_Encode.f 16 1 0 0 (-1) = some (a, b)) : a = 4293918867 ∧ b = 0 := by
  have e : ins_Encode.f 16 1 0 0 (-1) = some (4293918867, 0) := by decide +kernel
  rw [e] at h
  simp only [Option.some.injEq, Prod.mk.injEq] at h
  exact ⟨h.1.symm, h.2.symm⟩
theorem awk_dec {a b c d e f : Int} (h : ins_Decode.f 4293918867 = some (a, b, c, d, e, f)) : a = 16 ∧ b = 1 ∧ c = 0 ∧ d = 0 ∧ e = -1 ∧ f = 0 := by
  have g : ins_Decode.f 4293918867 = some (16, 1, 0, 0, -1, 0) := by decide +kernel
  rw [g] at h
  simp only [Option.some.injEq, Prod.mk.injEq] at h
  exact ⟨h.1.symm, h.2.1.symm, h.2.2.1.symm, h.2.2.2.1.symm, h.2.2.2.2.1.symm, h.2.2.2.2.2.symm⟩
theorem awk_eq {a b c d e f : Int} (h : a = 16 ∧ b = 1 ∧ c = 0 ∧ d = 0 ∧ e = -1 ∧ f = 0) : (a == 16 && (b == 1 && (c == 0 && (d == 0 && (e == (-1)))))) = true := by
  obtain ⟨rfl, rfl, rfl, rfl, rfl, rfl⟩ := h; decide
theorem awk_dec0 {a b c d e f : Int} (h : ins_Decode.f 0 = some (a, b, c, d, e, f)) : f = 3 := by
  have g : ins_Decode.f 0 = some (0, 0, 0, 0, 0, 3) := by decide +kernel
  rw [g] at h
  simp only [Option.some.injEq, Prod.mk.injEq] at h
  exact h.2.2.2.2.2.symm
theorem awk_form {s : ByteArray} (h : ins_Form.f 40 = some s) : s.toList = ([74] : List UInt8) := by
  have g : (ins_Form.f 40).map ByteArray.toList = some [74] := by decide +kernel
  rw [h] at g
  injection g
set_option maxHeartbeats 8000000 in
set_option maxRecDepth 100000 in
theorem caponierlaw02_awake.calls  (r : Bool) (w : World) (h : caponierlaw02_awake.f  = some r) (L : Go.Proofs.YtbdlhhajblhmiaaDoor.Ins.Laid w) :
    Calls Tryd.prog 9 #[] w fun e w' => e = .returned (.bool r) ∧ Below w.heap.size w w' := by
  have hu23 := Tryd.underlying23
  have HB := Aside0.mk (Below.refl w.heap.size w)
  have H : ((ins_Encode.f 16 1 0 0 (-1)).bind fun bt101 => ((ins_Decode.f 4293918867).bind fun bt103 => ((ins_Decode.f 0).bind fun bt110 => (if bt101.2 = 0 then (if bt101.1 = 4293918867 then (if bt103.2.2.2.2.2 = 0 then (if (bt103.1 == 16 && (bt103.2.1 == 1 && (bt103.2.2.1 == 0 && (bt103.2.2.2.1 == 0 && (bt103.2.2.2.2.1 == (-1)))))) = true then (if bt110.2.2.2.2.2 = 3 then ((ins_Form.f 40).bind fun t117 => (if t117.toList = ([74] : List UInt8) then ((ins_May.f bt103.1 bt103.2.1 bt103.2.2.1 bt103.2.2.2.1 bt103.2.2.2.2.1).bind fun t118 => (some t118)) else (some false))) else (some false)) else (some false)) else (some false)) else (some false)) else (some false))))) = some r := h
  clear h
  replace H := Option.bind_eq_some_iff.mp H
  obtain ⟨⟨t101, t102⟩, A10, H⟩ := H
  replace H : ((ins_Decode.f 4293918867).bind fun bt103 => ((ins_Decode.f 0).bind fun bt110 => (if t102 = 0 then (if t101 = 4293918867 then (if bt103.2.2.2.2.2 = 0 then (if (bt103.1 == 16 && (bt103.2.1 == 1 && (bt103.2.2.1 == 0 && (bt103.2.2.2.1 == 0 && (bt103.2.2.2.2.1 == (-1)))))) = true then (if bt110.2.2.2.2.2 = 3 then ((ins_Form.f 40).bind fun t117 => (if t117.toList = ([74] : List UInt8) then ((ins_May.f bt103.1 bt103.2.1 bt103.2.2.1 bt103.2.2.2.1 bt103.2.2.2.2.1).bind fun t118 => (some t118)) else (some false))) else (some false)) else (some false)) else (some false)) else (some false)) else (some false)))) = some r := H
  have E1 := Aside0.mk (awk_enc A10)
  have A1 := Aside0.mk A10
  clear A10
  replace H := Option.bind_eq_some_iff.mp H
  obtain ⟨⟨t103, t104, t105, t106, t107, t108⟩, A20, H⟩ := H
  replace H : ((ins_Decode.f 0).bind fun bt110 => (if t102 = 0 then (if t101 = 4293918867 then (if t108 = 0 then (if (t103 == 16 && (t104 == 1 && (t105 == 0 && (t106 == 0 && (t107 == (-1)))))) = true then (if bt110.2.2.2.2.2 = 3 then ((ins_Form.f 40).bind fun t117 => (if t117.toList = ([74] : List UInt8) then ((ins_May.f t103 t104 t105 t106 t107).bind fun t118 => (some t118)) else (some false))) else (some false)) else (some false)) else (some false)) else (some false)) else (some false))) = some r := H
  have E2 := Aside0.mk (awk_dec A20)
  have A2 := Aside0.mk A20
  clear A20
  replace H := Option.bind_eq_some_iff.mp H
  obtain ⟨⟨t110, t111, t112, t113, t114, t115⟩, A30, H⟩ := H
  replace H : (if t102 = 0 then (if t101 = 4293918867 then (if t108 = 0 then (if (t103 == 16 && (t104 == 1 && (t105 == 0 && (t106 == 0 && (t107 == (-1)))))) = true then (if t115 = 3 then ((ins_Form.f 40).bind fun t117 => (if t117.toList = ([74] : List UInt8) then ((ins_May.f t103 t104 t105 t106 t107).bind fun t118 => (some t118)) else (some false))) else (some false)) else (some false)) else (some false)) else (some false)) else (some false)) = some r := H
  have E3 := Aside0.mk (awk_dec0 A30)
  have A3 := Aside0.mk A30
  clear A30
  by_cases c4 : t102 = 0
  · rw [if_pos c4] at H
    have c4b0 : (t102 == 0) = true := beq_iff_eq.mpr c4
    have c4b1 : (t102 != 0) = false := bne_eq_false_iff_eq.mpr c4
    clear c4
    by_cases c5 : t101 = 4293918867
    · rw [if_pos c5] at H
      have c5b0 : (t101 == 4293918867) = true := beq_iff_eq.mpr c5
      have c5b1 : (t101 != 4293918867) = false := bne_eq_false_iff_eq.mpr c5
      clear c5
      by_cases c6 : t108 = 0
      · rw [if_pos c6] at H
        have c6b0 : (t108 == 0) = true := beq_iff_eq.mpr c6
        have c6b1 : (t108 != 0) = false := bne_eq_false_iff_eq.mpr c6
        clear c6
        by_cases c7 : (t103 == 16 && (t104 == 1 && (t105 == 0 && (t106 == 0 && (t107 == (-1)))))) = true
        · rw [if_pos c7] at H
          have c7b0 : (t103 == 16 && (t104 == 1 && (t105 == 0 && (t106 == 0 && (t107 == (-1)))))) = true := c7
          (try (have c7b1 : decide (t103 = 16 && (t104 == 1 && (t105 == 0 && (t106 == 0 && (t107 == (-1)))))) = true := by simpa using c7))
          (try (have c7b2 : (t103 == 16 && (t104 == 1 && (t105 == 0 && (t106 == 0 && (t107 == (-1)))))) = true := by simpa using c7))
          clear c7
          by_cases c8 : t115 = 3
          · rw [if_pos c8] at H
            have c8b0 : (t115 == 3) = true := beq_iff_eq.mpr c8
            have c8b1 : (t115 != 3) = false := bne_eq_false_iff_eq.mpr c8
            clear c8
            replace H := Option.bind_eq_some_iff.mp H
            obtain ⟨t117, A90, H⟩ := H
            replace H : (if t117.toList = ([74] : List UInt8) then ((ins_May.f t103 t104 t105 t106 t107).bind fun t118 => (some t118)) else (some false)) = some r := H
            have E9 := Aside0.mk (A90)
            have A9 := Aside0.mk A90
            clear A90
            by_cases c10 : t117.toList = ([74] : List UInt8)
            · rw [if_pos c10] at H
              have c10b0 : (t117.toList == ([74] : List UInt8)) = true := beq_iff_eq.mpr c10
              have c10b1 : (t117.toList != ([74] : List UInt8)) = false := bne_eq_false_iff_eq.mpr c10
              clear c10
              replace H := Option.bind_eq_some_iff.mp H
              obtain ⟨t118, A110, H⟩ := H
              replace H : (some t118) = some r := H
              have A11 := Aside0.mk A110
              clear A110
              obtain rfl := Option.some.inj H
              go_enter Tryd.func9, Tryd.ntmps9
              go_wp2_with (first | ((with_reducible refine gate_callee (f := 10) rfl ?_); refine goesL_ (some 9) rfl rfl Tryd.func10 (by kernel_rfl) rfl #[.agg #[.int .i64 16, .int .i64 1, .int .i64 0, .int .i64 0, .int .i64 (-1)]] rfl (by (try simp only [List.map_toArray, List.map_cons, List.map_nil]); first | done | rfl | (simp only [List.length_drop, List.length_take]; rfl)) ?_; (with_reducible refine (ins_Encode.calls 16 1 0 0 (-1) t101 t102 _ A1.out (by first | exact L | exact L.below (by repeat (first | (with_reducible first | exact HB.out | apply below_alloc | apply pw_below_drewN | apply below_drew1 | refine below_set ?_ GE109.out | refine below_set ?_ GE116.out) | exact HB.out)))).mono ?_); rintro e w12 ⟨rfl, hb⟩; refine ⟨_, rfl, ?_⟩; have n0_ := Aside0.mk (below_step (by repeat (first | (with_reducible first | exact HB.out | apply below_alloc | apply pw_below_drewN | apply below_drew1) | exact HB.out)) hb); clear HB; have HB := n0_; clear n0_; (try clear hb); (try clear hb2); (try clear hk); (try clear hi)) | ((with_reducible refine gate_callee (f := 16) rfl ?_); refine goesL_ (some 13) rfl rfl Tryd.func16 (by kernel_rfl) rfl #[.int .u32 4293918867] rfl (by (try simp only [List.map_toArray, List.map_cons, List.map_nil]); first | done | rfl | (simp only [List.length_drop, List.length_take]; rfl)) ?_; (with_reducible refine (ins_Decode.calls 4293918867 t103 t104 t105 t106 t107 t108 _ A2.out (by first | exact L | exact L.below (by repeat (first | (with_reducible first | exact HB.out | apply below_alloc | apply pw_below_drewN | apply below_drew1 | refine below_set ?_ GE109.out | refine below_set ?_ GE116.out) | exact HB.out)))).mono ?_); rintro e w13 ⟨rfl, hb⟩; refine ⟨_, rfl, ?_⟩; have n0_ := Aside0.mk (below_step (by repeat (first | (with_reducible first | exact HB.out | apply below_alloc | apply pw_below_drewN | apply below_drew1) | exact HB.out)) hb); clear HB; have HB := n0_; clear n0_; (try clear hb); (try clear hb2); (try clear hk); (try clear hi)) | ((with_reducible refine gate_dst (N := 3) rfl ?_); refine box_event ?hg (N := 3) ?hd (cs := #[.int .i64 0, .int .i64 0, .int .i64 0, .int .i64 0, .int .i64 0]) (t := 23) ?hr ?_; (case hd => rfl); (case hg => rfl); (case hr => first | (go_simp; done) | (go_simp; rfl)); intro gb109 hg w14 hbox hb; have n0_ := Aside0.mk (below_step (by repeat (first | (with_reducible first | exact HB.out | apply below_alloc | apply pw_below_drewN | apply below_drew1) | exact HB.out)) hb); have n1_ := Aside0.mk (hbox); have n2_ := Aside0.mk ((by rw [hg]; exact (below_size (by repeat (first | (with_reducible first | exact HB.out | apply below_alloc | apply pw_below_drewN | apply below_drew1) | exact HB.out))) : w.heap.size ≤ gb109)); have n3_ := Aside0.mk ((by rw [hg]; exact (below_size (by repeat (first | (with_reducible first | exact HB.out | apply below_alloc | apply pw_below_drewN | apply below_drew1) | exact HB.out))) : w.heap.size ≤ gb109)); clear HB; have HB := n0_; have BK109 := n1_; have GW109 := n2_; have GE109 := n3_; clear n0_ n1_ n2_ n3_; clear hb hbox hg; have hcz15_0 : w14.cell? ⟨gb109, 0, none⟩ = some (.int .i64 0) := (blk_cell BK109.out 0).trans rfl; have hcz15_1 : w14.cell? ⟨gb109, 1, none⟩ = some (.int .i64 0) := (blk_cell BK109.out 1).trans rfl; have hcz15_2 : w14.cell? ⟨gb109, 2, none⟩ = some (.int .i64 0) := (blk_cell BK109.out 2).trans rfl; have hcz15_3 : w14.cell? ⟨gb109, 3, none⟩ = some (.int .i64 0) := (blk_cell BK109.out 3).trans rfl; have hcz15_4 : w14.cell? ⟨gb109, 4, none⟩ = some (.int .i64 0) := (blk_cell BK109.out 4).trans rfl; have hfz15_0 := blk_frozen BK109.out 0; have hfz15_1 := blk_frozen BK109.out 1; have hfz15_2 := blk_frozen BK109.out 2; have hfz15_3 := blk_frozen BK109.out 3; have hfz15_4 := blk_frozen BK109.out 4) | ((with_reducible refine gate_callee (f := 16) rfl ?_); refine goesL_ (some 17) rfl rfl Tryd.func16 (by kernel_rfl) rfl #[.int .u32 0] rfl (by (try simp only [List.map_toArray, List.map_cons, List.map_nil]); first | done | rfl | (simp only [List.length_drop, List.length_take]; rfl)) ?_; (with_reducible refine (ins_Decode.calls 0 t110 t111 t112 t113 t114 t115 _ A3.out (by first | exact L | exact L.below (by repeat (first | (with_reducible first | exact HB.out | apply below_alloc | apply pw_below_drewN | apply below_drew1 | refine below_set ?_ GE109.out | refine below_set ?_ GE116.out) | exact HB.out)))).mono ?_); rintro e w16 ⟨rfl, hb⟩; refine ⟨_, rfl, ?_⟩; have n0_ := Aside0.mk (blk_below (g := gb109) (o := .cells #[.int .i64 t103, .int .i64 t104, .int .i64 t105, .int .i64 t106, .int .i64 t107] 23 (0, 0)) (by (with_reducible repeat (first | refine blk_drewN ?_ _ | refine blk_drew ?_ | refine blk_alloc ?_ _)); refine blk_put (cs := #[.int .i64 t103, .int .i64 t104, .int .i64 t105, .int .i64 t106, .int .i64 0]) ?_ 4 _ rfl; (with_reducible repeat (first | refine blk_drewN ?_ _ | refine blk_drew ?_ | refine blk_alloc ?_ _)); refine blk_put (cs := #[.int .i64 t103, .int .i64 t104, .int .i64 t105, .int .i64 0, .int .i64 0]) ?_ 3 _ rfl; (with_reducible repeat (first | refine blk_drewN ?_ _ | refine blk_drew ?_ | refine blk_alloc ?_ _)); refine blk_put (cs := #[.int .i64 t103, .int .i64 t104, .int .i64 0, .int .i64 0, .int .i64 0]) ?_ 2 _ rfl; (with_reducible repeat (first | refine blk_drewN ?_ _ | refine blk_drew ?_ | refine blk_alloc ?_ _)); refine blk_put (cs := #[.int .i64 t103, .int .i64 0, .int .i64 0, .int .i64 0, .int .i64 0]) ?_ 1 _ rfl; (with_reducible repeat (first | refine blk_drewN ?_ _ | refine blk_drew ?_ | refine blk_alloc ?_ _)); refine blk_put (cs := #[.int .i64 0, .int .i64 0, .int .i64 0, .int .i64 0, .int .i64 0]) ?_ 0 _ rfl; (with_reducible repeat (first | refine blk_drewN ?_ _ | refine blk_drew ?_ | refine blk_alloc ?_ _)); exact BK109.out) hb); have n1_ := Aside0.mk (below_step (by repeat (first | (with_reducible first | exact HB.out | apply below_alloc | apply pw_below_drewN | apply below_drew1 | refine below_set ?_ GE109.out) | exact HB.out)) hb); clear BK109; clear HB; have BK109 := n0_; have HB := n1_; clear n0_ n1_; (try clear hb); (try clear hb2); (try clear hk); (try clear hi)) | ((with_reducible refine gate_dst (N := 5) rfl ?_); refine box_event ?hg (N := 5) ?hd (cs := #[.int .i64 0, .int .i64 0, .int .i64 0, .int .i64 0, .int .i64 0]) (t := 23) ?hr ?_; (case hd => rfl); (case hg => rfl); (case hr => first | (go_simp; done) | (go_simp; rfl)); intro gb116 hg w17 hbox hb; have n0_ := Aside0.mk (blk_below (g := gb109) (o := .cells #[.int .i64 t103, .int .i64 t104, .int .i64 t105, .int .i64 t106, .int .i64 t107] 23 (0, 0)) (by (with_reducible repeat (first | refine blk_drewN ?_ _ | refine blk_drew ?_ | refine blk_alloc ?_ _)); exact BK109.out) hb); have n1_ := Aside0.mk (below_step (by repeat (first | (with_reducible first | exact HB.out | apply below_alloc | apply pw_below_drewN | apply below_drew1 | refine below_set ?_ GE109.out) | exact HB.out)) hb); have n2_ := Aside0.mk (hbox); have n3_ := Aside0.mk ((by rw [hg]; exact (below_size (by repeat (first | (with_reducible first | exact HB.out | apply below_alloc | apply pw_below_drewN | apply below_drew1 | refine below_set ?_ GE109.out) | exact HB.out))) : w.heap.size ≤ gb116)); have n4_ := Aside0.mk ((by rw [hg]; exact (below_size (by repeat (first | (with_reducible first | exact HB.out | apply below_alloc | apply pw_below_drewN | apply below_drew1 | refine below_set ?_ GE109.out) | exact HB.out))) : w.heap.size ≤ gb116)); have n5_ := Aside0.mk ((by rw [hg]; exact Nat.ne_of_lt (blk_lt (g := gb109) (o := .cells #[.int .i64 t103, .int .i64 t104, .int .i64 t105, .int .i64 t106, .int .i64 t107] 23 (0, 0)) (by (with_reducible repeat (first | refine blk_drewN ?_ _ | refine blk_drew ?_ | refine blk_alloc ?_ _)); exact BK109.out)) : gb109 ≠ gb116)); have n6_ := Aside0.mk ((by rw [hg]; exact Nat.ne_of_gt (blk_lt (g := gb109) (o := .cells #[.int .i64 t103, .int .i64 t104, .int .i64 t105, .int .i64 t106, .int .i64 t107] 23 (0, 0)) (by (with_reducible repeat (first | refine blk_drewN ?_ _ | refine blk_drew ?_ | refine blk_alloc ?_ _)); exact BK109.out)) : gb116 ≠ gb109)); clear BK109; clear HB; have BK109 := n0_; have HB := n1_; have BK116 := n2_; have GW116 := n3_; have GE116 := n4_; have NB109_116 := n5_; have NB116_109 := n6_; clear n0_ n1_ n2_ n3_ n4_ n5_ n6_; clear hb hbox hg; have hnb18 := NB116_109.out; have hnc18 := NB109_116.out; have hcz19_0 : w17.cell? ⟨gb116, 0, none⟩ = some (.int .i64 0) := (blk_cell BK116.out 0).trans rfl; have hcz19_1 : w17.cell? ⟨gb116, 1, none⟩ = some (.int .i64 0) := (blk_cell BK116.out 1).trans rfl; have hcz19_2 : w17.cell? ⟨gb116, 2, none⟩ = some (.int .i64 0) := (blk_cell BK116.out 2).trans rfl; have hcz19_3 : w17.cell? ⟨gb116, 3, none⟩ = some (.int .i64 0) := (blk_cell BK116.out 3).trans rfl; have hcz19_4 : w17.cell? ⟨gb116, 4, none⟩ = some (.int .i64 0) := (blk_cell BK116.out 4).trans rfl; have hfz19_0 := blk_frozen BK116.out 0; have hfz19_1 := blk_frozen BK116.out 1; have hfz19_2 := blk_frozen BK116.out 2; have hfz19_3 := blk_frozen BK116.out 3; have hfz19_4 := blk_frozen BK116.out 4; have hcz20_0 : w17.cell? ⟨gb109, 0, none⟩ = some (.int .i64 t103) := (blk_cell BK109.out 0).trans rfl; have hcz20_1 : w17.cell? ⟨gb109, 1, none⟩ = some (.int .i64 t104) := (blk_cell BK109.out 1).trans rfl; have hcz20_2 : w17.cell? ⟨gb109, 2, none⟩ = some (.int .i64 t105) := (blk_cell BK109.out 2).trans rfl; have hcz20_3 : w17.cell? ⟨gb109, 3, none⟩ = some (.int .i64 t106) := (blk_cell BK109.out 3).trans rfl; have hcz20_4 : w17.cell? ⟨gb109, 4, none⟩ = some (.int .i64 t107) := (blk_cell BK109.out 4).trans rfl; have hfz20_0 := blk_frozen BK109.out 0; have hfz20_1 := blk_frozen BK109.out 1; have hfz20_2 := blk_frozen BK109.out 2; have hfz20_3 := blk_frozen BK109.out 3; have hfz20_4 := blk_frozen BK109.out 4) | (go_at_call 14; (with_reducible refine (ins_Form.calls 40 t117 _ A9.out (by first | exact L | exact L.below (by repeat (first | (with_reducible first | exact HB.out | apply below_alloc | apply pw_below_drewN | apply below_drew1 | refine below_set ?_ GE109.out | refine below_set ?_ GE116.out) | exact HB.out)))).mono ?_); rintro e w' ⟨rfl, ⟨nd, rfl⟩⟩) | (go_at_call 12; (with_reducible refine (ins_May.calls t103 t104 t105 t106 t107 t118 _ A11.out (by first | exact L | exact L.below (by repeat (first | (with_reducible first | exact HB.out | apply below_alloc | apply pw_below_drewN | apply below_drew1 | refine below_set ?_ GE109.out | refine below_set ?_ GE116.out) | exact HB.out)))).mono ?_); rintro e w21 ⟨rfl, hb⟩; have n0_ := Aside0.mk (blk_below (g := gb109) (o := .cells #[.int .i64 t103, .int .i64 t104, .int .i64 t105, .int .i64 t106, .int .i64 t107] 23 (0, 0)) (by (with_reducible repeat (first | refine blk_drewN ?_ _ | refine blk_drew ?_ | refine blk_alloc ?_ _)); refine blk_far ?_ NB109_116.out _; (with_reducible repeat (first | refine blk_drewN ?_ _ | refine blk_drew ?_ | refine blk_alloc ?_ _)); refine blk_far ?_ NB109_116.out _; (with_reducible repeat (first | refine blk_drewN ?_ _ | refine blk_drew ?_ | refine blk_alloc ?_ _)); refine blk_far ?_ NB109_116.out _; (with_reducible repeat (first | refine blk_drewN ?_ _ | refine blk_drew ?_ | refine blk_alloc ?_ _)); refine blk_far ?_ NB109_116.out _; (with_reducible repeat (first | refine blk_drewN ?_ _ | refine blk_drew ?_ | refine blk_alloc ?_ _)); refine blk_far ?_ NB109_116.out _; (with_reducible repeat (first | refine blk_drewN ?_ _ | refine blk_drew ?_ | refine blk_alloc ?_ _)); exact BK109.out) hb); have n1_ := Aside0.mk (blk_below (g := gb116) (o := .cells #[.int .i64 t110, .int .i64 t111, .int .i64 t112, .int .i64 t113, .int .i64 t114] 23 (0, 0)) (by (with_reducible repeat (first | refine blk_drewN ?_ _ | refine blk_drew ?_ | refine blk_alloc ?_ _)); refine blk_put (cs := #[.int .i64 t110, .int .i64 t111, .int .i64 t112, .int .i64 t113, .int .i64 0]) ?_ 4 _ rfl; (with_reducible repeat (first | refine blk_drewN ?_ _ | refine blk_drew ?_ | refine blk_alloc ?_ _)); refine blk_put (cs := #[.int .i64 t110, .int .i64 t111, .int .i64 t112, .int .i64 0, .int .i64 0]) ?_ 3 _ rfl; (with_reducible repeat (first | refine blk_drewN ?_ _ | refine blk_drew ?_ | refine blk_alloc ?_ _)); refine blk_put (cs := #[.int .i64 t110, .int .i64 t111, .int .i64 0, .int .i64 0, .int .i64 0]) ?_ 2 _ rfl; (with_reducible repeat (first | refine blk_drewN ?_ _ | refine blk_drew ?_ | refine blk_alloc ?_ _)); refine blk_put (cs := #[.int .i64 t110, .int .i64 0, .int .i64 0, .int .i64 0, .int .i64 0]) ?_ 1 _ rfl; (with_reducible repeat (first | refine blk_drewN ?_ _ | refine blk_drew ?_ | refine blk_alloc ?_ _)); refine blk_put (cs := #[.int .i64 0, .int .i64 0, .int .i64 0, .int .i64 0, .int .i64 0]) ?_ 0 _ rfl; (with_reducible repeat (first | refine blk_drewN ?_ _ | refine blk_drew ?_ | refine blk_alloc ?_ _)); exact BK116.out) hb); have n2_ := Aside0.mk (below_step (by repeat (first | (with_reducible first | exact HB.out | apply below_alloc | apply pw_below_drewN | apply below_drew1 | refine below_set ?_ GE109.out | refine below_set ?_ GE116.out) | exact HB.out)) hb); clear BK109; clear BK116; clear HB; have BK109 := n0_; have BK116 := n1_; have HB := n2_; clear n0_ n1_ n2_; (try clear hb); (try clear hb2); (try clear hk); (try clear hi)))
              go_ret
              exact ⟨by first | rfl | (simp [errW_none, errW_some] <;> rfl) | (simp [*, errW_none, errW_some] <;> rfl), by repeat (first | (with_reducible first | exact HB.out | apply below_alloc | apply pw_below_drewN | apply below_drew1 | refine below_set ?_ GE109.out | refine below_set ?_ GE116.out) | exact HB.out)⟩
            · exact absurd (awk_form E9.out) c10
          · exact absurd E3.out c8
        · exact absurd (awk_eq E2.out) c7
      · exact absurd E2.out.2.2.2.2.2 c6
    · exact absurd E1.out.1 c5
  · exact absurd E1.out.2 c4

/-! ### caponierref02_Form: function 15 -/
mutual
def caponierref02_Form.j0 : Nat → Int → Bool → Option (ByteArray)
  | 0, _, _ => none
  | k + 1, x0, x3 => if x3 = true then (some (⟨#[]⟩ : ByteArray)) else (if x0 ≤ 15 then (some (⟨#[82]⟩ : ByteArray)) else (if x0 ≤ 28 then (caponierref02_Form.j1 k x0 true) else (caponierref02_Form.j1 k x0 (x0 == 41))))
def caponierref02_Form.j1 : Nat → Int → Bool → Option (ByteArray)
  | 0, _, _ => none
  | k + 1, x0, x13 => if x13 = true then (some (⟨#[73]⟩ : ByteArray)) else (if x0 ≤ 31 then (some (⟨#[83]⟩ : ByteArray)) else (if x0 ≤ 37 then (some (⟨#[66]⟩ : ByteArray)) else (if x0 ≤ 39 then (some (⟨#[85]⟩ : ByteArray)) else (if x0 = 40 then (some (⟨#[74]⟩ : ByteArray)) else (some (⟨#[69]⟩ : ByteArray))))))
end
def caponierref02_Form.f (k : Nat) (a0 : Int) : Option (ByteArray) := if a0 < 0 then (caponierref02_Form.j0 k a0 true) else (caponierref02_Form.j0 k a0 (decide (a0 > 42)))
theorem caponierref02_Form.mono_l : ∀ k, (∀ y0 y1, LeO (caponierref02_Form.j0 k y0 y1) (caponierref02_Form.j0 (k + 1) y0 y1)) ∧ (∀ y0 y1, LeO (caponierref02_Form.j1 k y0 y1) (caponierref02_Form.j1 (k + 1) y0 y1))
  | 0 => ⟨fun _ _ r h => by simp [caponierref02_Form.j0] at h, fun _ _ r h => by simp [caponierref02_Form.j1] at h⟩
  | k + 1 => by
    obtain ⟨ih0, ih1⟩ := caponierref02_Form.mono_l k
    refine ⟨?_, ?_⟩
    · intro y0 y1
      unfold caponierref02_Form.j0
      repeat' first
      | (with_reducible exact ih0 _ _)
      | (with_reducible exact ih1 _ _)
      | (with_reducible exact LeO.refl _)
      | (with_reducible exact LeO.none _)
      | (with_reducible refine LeO.ite ?_ ?_)
      | (with_reducible refine LeO.bind ?_ (fun _ => ?_))
      | exact ih0 _ _
      | exact ih1 _ _
      | exact LeO.none _
      | refine LeO.ite ?_ ?_
      | refine LeO.bind ?_ (fun _ => ?_)
    · intro y0 y1
      unfold caponierref02_Form.j1
      repeat' first
      | (with_reducible exact ih0 _ _)
      | (with_reducible exact ih1 _ _)
      | (with_reducible exact LeO.refl _)
      | (with_reducible exact LeO.none _)
      | (with_reducible refine LeO.ite ?_ ?_)
      | (with_reducible refine LeO.bind ?_ (fun _ => ?_))
      | exact ih0 _ _
      | exact ih1 _ _
      | exact LeO.none _
      | refine LeO.ite ?_ ?_
      | refine LeO.bind ?_ (fun _ => ?_)
theorem caponierref02_Form.mono : ∀ a0 k, LeO (caponierref02_Form.f k a0) (caponierref02_Form.f (k + 1) a0) := by
  intro a0 k
  obtain ⟨ih0, ih1⟩ := caponierref02_Form.mono_l k
  unfold caponierref02_Form.f
  repeat' first
      | (with_reducible exact ih0 _ _)
      | (with_reducible exact ih1 _ _)
      | (with_reducible exact LeO.refl _)
      | (with_reducible exact LeO.none _)
      | (with_reducible refine LeO.ite ?_ ?_)
      | (with_reducible refine LeO.bind ?_ (fun _ => ?_))
      | exact ih0 _ _
      | exact ih1 _ _
      | exact LeO.none _
      | refine LeO.ite ?_ ?_
      | refine LeO.bind ?_ (fun _ => ?_)
set_option maxHeartbeats 8000000 in
set_option maxRecDepth 100000 in
theorem caponierref02_Form.calls (k : Nat) (a0 : Int) (r : ByteArray) (w : World) (h : caponierref02_Form.f k a0 = some r) :
    Calls Tryd.prog 15 #[.int .i64 a0] w fun e w' => e = .returned (.string r) ∧ Drawn0 w w' := by
  have H : (if a0 < 0 then (caponierref02_Form.j0 k a0 true) else (caponierref02_Form.j0 k a0 (decide (a0 > 42)))) = some r := h
  clear h
  have HC2 := Aside0.mk H
  clear H
  go_enter Tryd.func15, Tryd.ntmps15
  go_upto_region 1 with (fail)
  go_cut [3] (fun v3 wc => ∃ (kq : Nat) (x3_1 : Bool), v3 = .bool x3_1 ∧ Aside0 (caponierref02_Form.j0 kq a0 x3_1 = some r) ∧ Aside0 (kq ≤ k) ∧ Drawn0 w wc)
  case first =>
    have H := HC2.out
    clear HC2
    by_cases c3 : a0 < 0
    · rw [if_pos c3] at H
      have c3b0 : decide (a0 < 0) = true := decide_eq_true c3
      clear c3
      (first | rw [c3b0] | (simp only [i64_w, i32_w]; rw [c3b0]) | skip)
      have H' := Aside0.mk H
      clear H
      go_wp2
      go_meet
      case rel => exact ⟨_, (true), (by first | rfl | (simp; done) | (simp [*]; done)), H', ⟨by first | omega | exact Nat.le_refl _⟩, by repeat (first | exact Drawn0.refl _ | apply Drawn0.step)⟩
    · rw [if_neg c3] at H
      have c3b0 : decide (a0 < 0) = false := decide_eq_false c3
      clear c3
      (first | rw [c3b0] | (simp only [i64_w, i32_w]; rw [c3b0]) | skip)
      have H' := Aside0.mk H
      clear H
      go_wp2
      go_meet
      case rel => exact ⟨_, (decide (a0 > 42)), (by first | rfl | (simp; done) | (simp [*]; done)), H', ⟨by first | omega | exact Nat.le_refl _⟩, by repeat (first | exact Drawn0.refl _ | apply Drawn0.step)⟩
  case rest =>
    clear HC2
    try clear c1
    try clear p2
    try clear c3
    try clear c3b0
    obtain ⟨kq, x3_1, rfl, HA, HJ1, ⟨mc1, rfl⟩⟩ := hcut
    cases kq with
    | zero => exact absurd HA.out (by simp [caponierref02_Form.j0])
    | succ kj1 =>
      have H := HA.out
      clear HA
      simp only [caponierref02_Form.j0] at H
      by_cases c4 : x3_1 = true
      · subst c4
        have H1 : (some (⟨#[]⟩ : ByteArray)) = some r := by rw [if_pos rfl] at H; exact H
        clear H
        have H := H1
        clear H1
        obtain rfl := Option.some.inj H
        go_wp2
        go_ret
        exact ⟨by first | rfl | (simp; done) | (simp [*]; done), by repeat (first | exact Drawn0.refl _ | apply Drawn0.step)⟩
      · replace c4 := Bool.eq_false_iff.mpr c4
        subst c4
        have H1 : (if a0 ≤ 15 then (some (⟨#[82]⟩ : ByteArray)) else (if a0 ≤ 28 then (caponierref02_Form.j1 kj1 a0 true) else (caponierref02_Form.j1 kj1 a0 (a0 == 41)))) = some r := by rw [if_neg (show ¬ (false = true) by decide)] at H; exact H
        clear H
        have H := H1
        clear H1
        by_cases c5 : a0 ≤ 15
        · rw [if_pos c5] at H
          have c5b0 : decide (a0 ≤ 15) = true := decide_eq_true c5
          clear c5
          obtain rfl := Option.some.inj H
          go_wp2
          go_ret
          exact ⟨by first | rfl | (simp; done) | (simp [*]; done), by repeat (first | exact Drawn0.refl _ | apply Drawn0.step)⟩
        · rw [if_neg c5] at H
          have c5b0 : decide (a0 ≤ 15) = false := decide_eq_false c5
          clear c5
          have HC6 := Aside0.mk H
          clear H
          go_upto_region 5 with (fail)
          go_cut [13] (fun v13 wc => ∃ (kq : Nat) (x13_5 : Bool), v13 = .bool x13_5 ∧ Aside0 (caponierref02_Form.j1 kq a0 x13_5 = some r) ∧ Aside0 (kq ≤ kj1) ∧ Drawn0 w wc)
          case first =>
            have H := HC6.out
            clear HC6
            by_cases c7 : a0 ≤ 28
            · rw [if_pos c7] at H
              have c7b0 : decide (a0 ≤ 28) = true := decide_eq_true c7
              clear c7
              (first | rw [c7b0] | (simp only [i64_w, i32_w]; rw [c7b0]) | skip)
              have H' := Aside0.mk H
              clear H
              go_wp2
              go_meet
              case rel => exact ⟨_, (true), (by first | rfl | (simp; done) | (simp [*]; done)), H', ⟨by have := HJ1.out; first | omega | exact Nat.le_refl _⟩, by repeat (first | exact Drawn0.refl _ | apply Drawn0.step)⟩
            · rw [if_neg c7] at H
              have c7b0 : decide (a0 ≤ 28) = false := decide_eq_false c7
              clear c7
              (first | rw [c7b0] | (simp only [i64_w, i32_w]; rw [c7b0]) | skip)
              have H' := Aside0.mk H
              clear H
              go_wp2
              go_meet
              case rel => exact ⟨_, ((a0 == 41)), (by first | rfl | (simp; done) | (simp [*]; done)), H', ⟨by have := HJ1.out; first | omega | exact Nat.le_refl _⟩, by repeat (first | exact Drawn0.refl _ | apply Drawn0.step)⟩
          case rest =>
            clear HC6
            try clear c1
            try clear p2
            try clear c3
            try clear c3b0
            try clear c4
            try clear c5
            try clear c5b0
            try clear c7
            try clear c7b0
            try clear p2
            obtain ⟨kq, x13_5, rfl, HA, HJ5, ⟨mc5, rfl⟩⟩ := hcut
            cases kq with
            | zero => exact absurd HA.out (by simp [caponierref02_Form.j1])
            | succ kj5 =>
              have H := HA.out
              clear HA
              simp only [caponierref02_Form.j1] at H
              by_cases c8 : x13_5 = true
              · subst c8
                have H1 : (some (⟨#[73]⟩ : ByteArray)) = some r := by rw [if_pos rfl] at H; exact H
                clear H
                have H := H1
                clear H1
                obtain rfl := Option.some.inj H
                go_wp2
                go_ret
                exact ⟨by first | rfl | (simp; done) | (simp [*]; done), by repeat (first | exact Drawn0.refl _ | apply Drawn0.step)⟩
              · replace c8 := Bool.eq_false_iff.mpr c8
                subst c8
                have H1 : (if a0 ≤ 31 then (some (⟨#[83]⟩ : ByteArray)) else (if a0 ≤ 37 then (some (⟨#[66]⟩ : ByteArray)) else (if a0 ≤ 39 then (some (⟨#[85]⟩ : ByteArray)) else (if a0 = 40 then (some (⟨#[74]⟩ : ByteArray)) else (some (⟨#[69]⟩ : ByteArray)))))) = some r := by rw [if_neg (show ¬ (false = true) by decide)] at H; exact H
                clear H
                have H := H1
                clear H1
                by_cases c9 : a0 ≤ 31
                · rw [if_pos c9] at H
                  have c9b0 : decide (a0 ≤ 31) = true := decide_eq_true c9
                  clear c9
                  obtain rfl := Option.some.inj H
                  go_wp2
                  go_ret
                  exact ⟨by first | rfl | (simp; done) | (simp [*]; done), by repeat (first | exact Drawn0.refl _ | apply Drawn0.step)⟩
                · rw [if_neg c9] at H
                  have c9b0 : decide (a0 ≤ 31) = false := decide_eq_false c9
                  clear c9
                  by_cases c10 : a0 ≤ 37
                  · rw [if_pos c10] at H
                    have c10b0 : decide (a0 ≤ 37) = true := decide_eq_true c10
                    clear c10
                    obtain rfl := Option.some.inj H
                    go_wp2
                    go_ret
                    exact ⟨by first | rfl | (simp; done) | (simp [*]; done), by repeat (first | exact Drawn0.refl _ | apply Drawn0.step)⟩
                  · rw [if_neg c10] at H
                    have c10b0 : decide (a0 ≤ 37) = false := decide_eq_false c10
                    clear c10
                    by_cases c11 : a0 ≤ 39
                    · rw [if_pos c11] at H
                      have c11b0 : decide (a0 ≤ 39) = true := decide_eq_true c11
                      clear c11
                      obtain rfl := Option.some.inj H
                      go_wp2
                      go_ret
                      exact ⟨by first | rfl | (simp; done) | (simp [*]; done), by repeat (first | exact Drawn0.refl _ | apply Drawn0.step)⟩
                    · rw [if_neg c11] at H
                      have c11b0 : decide (a0 ≤ 39) = false := decide_eq_false c11
                      clear c11
                      by_cases c12 : a0 = 40
                      · rw [if_pos c12] at H
                        have c12b0 : (a0 == 40) = true := beq_iff_eq.mpr c12
                        have c12b1 : (a0 != 40) = false := bne_eq_false_iff_eq.mpr c12
                        clear c12
                        obtain rfl := Option.some.inj H
                        go_wp2
                        go_ret
                        exact ⟨by first | rfl | (simp; done) | (simp [*]; done), by repeat (first | exact Drawn0.refl _ | apply Drawn0.step)⟩
                      · rw [if_neg c12] at H
                        have c12b0 : (a0 == 40) = false := beq_eq_false_iff_ne.mpr c12
                        have c12b1 : (a0 != 40) = true := bne_iff_ne.mpr c12
                        obtain rfl := Option.some.inj H
                        go_wp2
                        go_ret
                        exact ⟨by first | rfl | (simp; done) | (simp [*]; done), by repeat (first | exact Drawn0.refl _ | apply Drawn0.step)⟩

/-! ### caponierref02_Shift: function 26 -/
def caponierref02_Shift.f (a0 : Int) : Option (Bool) := if a0 ≥ 22 then (some (decide (a0 ≤ 24))) else (some false)
set_option maxHeartbeats 8000000 in
set_option maxRecDepth 100000 in
theorem caponierref02_Shift.calls (a0 : Int) (r : Bool) (w : World) (h : caponierref02_Shift.f a0 = some r) :
    Calls Tryd.prog 26 #[.int .i64 a0] w fun e w' => e = .returned (.bool r) ∧ Drawn0 w w' := by
  have H : (if a0 ≥ 22 then (some (decide (a0 ≤ 24))) else (some false)) = some r := h
  clear h
  by_cases c2 : a0 ≥ 22
  · rw [if_pos c2] at H
    have c2b0 : decide (22 ≤ a0) = true := decide_eq_true c2
    clear c2
    obtain rfl := Option.some.inj H
    go_enter Tryd.func26, Tryd.ntmps26
    go_wp2
    go_ret
    exact ⟨by first | rfl | (simp; done) | (simp [*]; done), by repeat (first | exact Drawn0.refl _ | apply Drawn0.step)⟩
  · rw [if_neg c2] at H
    have c2b0 : decide (22 ≤ a0) = false := decide_eq_false c2
    clear c2
    obtain rfl := Option.some.inj H
    go_enter Tryd.func26, Tryd.ntmps26
    go_wp2
    go_ret
    exact ⟨by first | rfl | (simp; done) | (simp [*]; done), by repeat (first | exact Drawn0.refl _ | apply Drawn0.step)⟩

end Go.Proofs.YtbdlhhajblhmiaaDoor.QInsDecodes
