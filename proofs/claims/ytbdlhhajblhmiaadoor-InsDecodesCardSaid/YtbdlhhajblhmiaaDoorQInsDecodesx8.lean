-- Written by a program of this session (handprint.py) out of the translation: Go functions as Lean functions, and that the Go code comes to their answers; the row of the law.
import Derived.Test.YtbdlhhajblhmiaaDoorQInsDecodesx0
import Derived.Test.YtbdlhhajblhmiaaDoorQInsDecodesx1
import Derived.Test.YtbdlhhajblhmiaaDoorQInsDecodesx2
import Derived.Test.YtbdlhhajblhmiaaDoorQInsDecodesx5
import Derived.Test.YtbdlhhajblhmiaaDoorQInsDecodesx7
namespace Go.Proofs.YtbdlhhajblhmiaaDoor.QInsDecodes
open Go.RowKit Go.Proofs.YtbdlhhajblhmiaaDoorW.PrintWords Go.Proofs.YtbdlhhajblhmiaaDoorW.PrintLast Go.Proofs.YtbdlhhajblhmiaaDoorW.PrintMore
attribute [local go_sem] max2_int min2_int max_two min_two max_three min_three max_four min_four   -- for this text's walks alone
set_option linter.unusedVariables false
set_option linter.unusedSimpArgs false

attribute [local go_sem high] eqA23
/-! ### caponierref02_Decode: function 17 -/
def caponierref02_Decode.l0 : Nat → Int → Int → Option (Int × Int × Int × Int × Int × Int)
 | 0, _, _ => none
 | k + 1, x0, x4 => if x4 ≤ 42 then ((caponierref02_as.f k x0 x4).bind fun bt184 => ((caponierref02_Encode.f k bt184.1 bt184.2.1 bt184.2.2.1 bt184.2.2.2.1 bt184.2.2.2.2).bind fun bt190 => (if bt190.2 = 0 then (if bt190.1 = x0 then (some (bt184.1, bt184.2.1, bt184.2.2.1, bt184.2.2.2.1, bt184.2.2.2.2, 0)) else (caponierref02_Decode.l0 k x0 (wrap64 (x4 + 1)))) else (caponierref02_Decode.l0 k x0 (wrap64 (x4 + 1)))))) else (some (0, 0, 0, 0, 0, 3))
def caponierref02_Decode.f (k : Nat) (a0 : Int) : Option (Int × Int × Int × Int × Int × Int) := caponierref02_Decode.l0 k a0 0
theorem caponierref02_Decode.mono_l : ∀ k, (∀ y0 y1, LeO (caponierref02_Decode.l0 k y0 y1) (caponierref02_Decode.l0 (k + 1) y0 y1))
 | 0 => fun _ _ r h => by simp [caponierref02_Decode.l0] at h
 | k + 1 => by
  have ih0 := caponierref02_Decode.mono_l k
  ·intro y0 y1
   unfold caponierref02_Decode.l0
   repeat' first
   | (with_reducible exact ih0 _ _)
   | (with_reducible exact caponierref02_Encode.mono _ _ _ _ _ _)
   | (with_reducible exact caponierref02_as.mono _ _ _)
   | (with_reducible exact LeO.refl _)
   | (with_reducible exact LeO.none _)
   | (with_reducible refine LeO.ite ?_ ?_)
   | (with_reducible refine LeO.bind ?_ (fun _ => ?_))
   | exact ih0 _ _
   | exact caponierref02_Encode.mono _ _ _ _ _ _
   | exact caponierref02_as.mono _ _ _
   | exact LeO.none _
   | refine LeO.ite ?_ ?_
   | refine LeO.bind ?_ (fun _ => ?_)
theorem caponierref02_Decode.mono : ∀ a0 k, LeO (caponierref02_Decode.f k a0) (caponierref02_Decode.f (k + 1) a0) := by
 intro a0 k
 have ih0 := caponierref02_Decode.mono_l k
 unfold caponierref02_Decode.f
 repeat' first
   | (with_reducible exact ih0 _ _)
   | (with_reducible exact caponierref02_Encode.mono _ _ _ _ _ _)
   | (with_reducible exact caponierref02_as.mono _ _ _)
   | (with_reducible exact LeO.refl _)
   | (with_reducible exact LeO.none _)
   | (with_reducible refine LeO.ite ?_ ?_)
   | (with_reducible refine LeO.bind ?_ (fun _ => ?_))
   | exact ih0 _ _
   | exact caponierref02_Encode.mono _ _ _ _ _ _
   | exact caponierref02_as.mono _ _ _
   | exact LeO.none _
   | refine LeO.ite ?_ ?_
   | refine LeO.bind ?_ (fun _ => ?_)
set_option maxHeartbeats 8000000 in
set_option maxRecDepth 100000 in
theorem caponierref02_Decode.calls (k : Nat) (a0 : Int) (r1 : Int) (r2 : Int) (r3 : Int) (r4 : Int) (r5 : Int) (r6 : Int) (w : World) (h : caponierref02_Decode.f k a0 = some (r1, r2, r3, r4, r5, r6)) :
  Calls Tryd.prog 17 #[.int .u32 a0] w fun e w' => e = .returned (.tuple #[.agg #[.int .i64 r1, .int .i64 r2, .int .i64 r3, .int .i64 r4, .int .i64 r5], .int .i64 r6]) ∧ Below w.heap.size w w' := by
 have hu23 := Tryd.underlying23
 have HB := Aside0.mk (Below.refl w.heap.size w)
 have H : (caponierref02_Decode.l0 k a0 0) = some (r1, r2, r3, r4, r5, r6) := h
 clear h
 have H' := Aside0.mk H
 clear H
 go_enter Tryd.func17, Tryd.ntmps17
 go_wp2_with (first | ((with_reducible refine gate_dst (N := 2) rfl ?_); refine box_event ?hg (N := 2) ?hd (cs := #[.int .i64 0, .int .i64 0, .int .i64 0, .int .i64 0, .int .i64 0]) (t := 23) ?hr ?_; (case hd => rfl); (case hg => rfl); (case hr => first | (go_simp; done) | (go_simp; rfl)); intro gb183 hg w2 hbox hb; have n0_ := Aside0.mk (below_step (by repeat (first | (with_reducible first | exact HB.out | apply below_alloc | apply pw_below_drewN | apply below_drew1) | exact HB.out)) hb); have n1_ := Aside0.mk (hbox); have n2_ := Aside0.mk ((by rw [hg]; exact (below_size (by repeat (first | (with_reducible first | exact HB.out | apply below_alloc | apply pw_below_drewN | apply below_drew1) | exact HB.out))) : w.heap.size ≤ gb183)); have n3_ := Aside0.mk ((by rw [hg]; exact (below_size (by repeat (first | (with_reducible first | exact HB.out | apply below_alloc | apply pw_below_drewN | apply below_drew1) | exact HB.out))) : w.heap.size ≤ gb183)); clear HB; have HB := n0_; have BK183 := n1_; have GW183 := n2_; have GE183 := n3_; clear n0_ n1_ n2_ n3_; clear hb hbox hg))
 go_loopg [4] k (fun kq v4 w' => ∃ (x4_1 : Int) (x184000_1 : Int) (x184001_1 : Int) (x184002_1 : Int) (x184003_1 : Int) (x184004_1 : Int), v4 = .int .i64 x4_1 ∧ Aside0 (caponierref02_Decode.l0 kq a0 x4_1 = some (r1, r2, r3, r4, r5, r6)) ∧ Aside0 (kq ≤ k) ∧ Aside0 (w'.heap[gb183]? = some (.cells #[.int .i64 x184000_1, .int .i64 x184001_1, .int .i64 x184002_1, .int .i64 x184003_1, .int .i64 x184004_1] 23 (0, 0))) ∧ Aside0 (Below w.heap.size w w'))
 case atStart => exact ⟨(0), (0), (0), (0), (0), (0), (by first | rfl | (simp; done) | (simp [*]; done)), H', ⟨Nat.le_refl _⟩, ⟨by (with_reducible repeat (first | refine blk_drewN ?_ _ | refine blk_drew ?_ | refine blk_alloc ?_ _)); exact BK183.out⟩, ⟨by repeat (first | (with_reducible first | exact HB.out | apply below_alloc | apply pw_below_drewN | apply below_drew1 | refine below_set ?_ GE183.out) | exact HB.out)⟩⟩
 case round =>
  clear H'
  try clear c1
  try clear p2
  obtain ⟨x4_1, x184000_1, x184001_1, x184002_1, x184003_1, x184004_1, rfl, HA, HK1, BK183, HB⟩ := hrel
  cases gk with
  | zero => exact absurd HA.out (by simp [caponierref02_Decode.l0])
  | succ k1 =>
   have H := HA.out
   clear HA
   simp only [caponierref02_Decode.l0] at H
   by_cases c3 : x4_1 ≤ 42
   ·rw [if_pos c3] at H
    have c3b0 : decide (x4_1 ≤ 42) = true := decide_eq_true c3
    clear c3
    replace H := Option.bind_eq_some_iff.mp H
    obtain ⟨⟨t184, t185, t186, t187, t188⟩, A40, H⟩ := H
    replace H : ((caponierref02_Encode.f k1 t184 t185 t186 t187 t188).bind fun bt190 => (if bt190.2 = 0 then (if bt190.1 = a0 then (some (t184, t185, t186, t187, t188, 0)) else (caponierref02_Decode.l0 k1 a0 (wrap64 (x4_1 + 1)))) else (caponierref02_Decode.l0 k1 a0 (wrap64 (x4_1 + 1))))) = some (r1, r2, r3, r4, r5, r6) := H
    have A4 := Aside0.mk A40
    clear A40
    replace H := Option.bind_eq_some_iff.mp H
    obtain ⟨⟨t190, t191⟩, A50, H⟩ := H
    replace H : (if t191 = 0 then (if t190 = a0 then (some (t184, t185, t186, t187, t188, 0)) else (caponierref02_Decode.l0 k1 a0 (wrap64 (x4_1 + 1)))) else (caponierref02_Decode.l0 k1 a0 (wrap64 (x4_1 + 1)))) = some (r1, r2, r3, r4, r5, r6) := H
    have A5 := Aside0.mk A50
    clear A50
    by_cases c6 : t191 = 0
    ·rw [if_pos c6] at H
     have c6b0 : (t191 == 0) = true := beq_iff_eq.mpr c6
     have c6b1 : (t191 != 0) = false := bne_eq_false_iff_eq.mpr c6
     clear c6
     by_cases c7 : t190 = a0
     ·rw [if_pos c7] at H
      have c7b0 : (t190 == a0) = true := beq_iff_eq.mpr c7
      have c7b1 : (t190 != a0) = false := bne_eq_false_iff_eq.mpr c7
      clear c7
      simp only [Option.some.injEq, Prod.mk.injEq] at H
      obtain ⟨rfl, rfl, rfl, rfl, rfl, rfl⟩ := H
      go_wp2_with (first | ((with_reducible refine gate_callee (f := 34) rfl ?_); refine goesL_ (some 14) rfl rfl Tryd.func34 (by kernel_rfl) rfl #[.int .u32 a0, .int .i64 x4_1] rfl (by (try simp only [List.map_toArray, List.map_cons, List.map_nil]); first | done | rfl | (simp only [List.length_drop, List.length_take]; rfl)) ?_; (with_reducible refine (caponierref02_as.calls k1 a0 x4_1 t184 t185 t186 t187 t188 _ A4.out).mono ?_); rintro e w8 ⟨rfl, hb⟩; refine ⟨_, rfl, ?_⟩; have n0_ := Aside0.mk (blk_below (g := gb183) (o := .cells #[.int .i64 x184000_1, .int .i64 x184001_1, .int .i64 x184002_1, .int .i64 x184003_1, .int .i64 x184004_1] 23 (0, 0)) (by (with_reducible repeat (first | refine blk_drewN ?_ _ | refine blk_drew ?_ | refine blk_alloc ?_ _)); exact BK183.out) hb); have n1_ := Aside0.mk (below_step (by repeat (first | (with_reducible first | exact HB.out | apply below_alloc | apply pw_below_drewN | apply below_drew1 | refine below_set ?_ GE183.out) | exact HB.out)) hb); clear BK183; clear HB; have BK183 := n0_; have HB := n1_; clear n0_ n1_; (try clear hb); (try clear hb2); (try clear hk); (try clear hi)) | ((with_reducible refine gate_dst (N := 5) rfl ?_); refine box_event ?hg (N := 5) ?hd (cs := #[.int .i64 0, .int .i64 0, .int .i64 0, .int .i64 0, .int .i64 0]) (t := 23) ?hr ?_; (case hd => rfl); (case hg => rfl); (case hr => first | (go_simp; done) | (go_simp; rfl)); intro gb189 hg w9 hbox hb; have n0_ := Aside0.mk (blk_below (g := gb183) (o := .cells #[.int .i64 x184000_1, .int .i64 x184001_1, .int .i64 x184002_1, .int .i64 x184003_1, .int .i64 x184004_1] 23 (0, 0)) (by (with_reducible repeat (first | refine blk_drewN ?_ _ | refine blk_drew ?_ | refine blk_alloc ?_ _)); exact BK183.out) hb); have n1_ := Aside0.mk (below_step (by repeat (first | (with_reducible first | exact HB.out | apply below_alloc | apply pw_below_drewN | apply below_drew1 | refine below_set ?_ GE183.out) | exact HB.out)) hb); have n2_ := Aside0.mk (hbox); have n3_ := Aside0.mk ((by rw [hg]; exact (below_size (by repeat (first | (with_reducible first | exact HB.out | apply below_alloc | apply pw_below_drewN | apply below_drew1 | refine below_set ?_ GE183.out) | exact HB.out))) : w.heap.size ≤ gb189)); have n4_ := Aside0.mk ((by rw [hg]; exact (below_size (by repeat (first | (with_reducible first | exact HB.out | apply below_alloc | apply pw_below_drewN | apply below_drew1 | refine below_set ?_ GE183.out) | exact HB.out))) : w.heap.size ≤ gb189)); have n5_ := Aside0.mk ((by rw [hg]; exact Nat.ne_of_lt (blk_lt (g := gb183) (o := .cells #[.int .i64 x184000_1, .int .i64 x184001_1, .int .i64 x184002_1, .int .i64 x184003_1, .int .i64 x184004_1] 23 (0, 0)) (by (with_reducible repeat (first | refine blk_drewN ?_ _ | refine blk_drew ?_ | refine blk_alloc ?_ _)); exact BK183.out)) : gb183 ≠ gb189)); have n6_ := Aside0.mk ((by rw [hg]; exact Nat.ne_of_gt (blk_lt (g := gb183) (o := .cells #[.int .i64 x184000_1, .int .i64 x184001_1, .int .i64 x184002_1, .int .i64 x184003_1, .int .i64 x184004_1] 23 (0, 0)) (by (with_reducible repeat (first | refine blk_drewN ?_ _ | refine blk_drew ?_ | refine blk_alloc ?_ _)); exact BK183.out)) : gb189 ≠ gb183)); clear BK183; clear HB; have BK183 := n0_; have HB := n1_; have BK189 := n2_; have GW189 := n3_; have GE189 := n4_; have NB183_189 := n5_; have NB189_183 := n6_; clear n0_ n1_ n2_ n3_ n4_ n5_ n6_; clear hb hbox hg; have hnb10 := NB189_183.out; have hnc10 := NB183_189.out; have hcz11_0 : w9.cell? ⟨gb189, 0, none⟩ = some (.int .i64 0) := (blk_cell BK189.out 0).trans rfl; have hcz11_1 : w9.cell? ⟨gb189, 1, none⟩ = some (.int .i64 0) := (blk_cell BK189.out 1).trans rfl; have hcz11_2 : w9.cell? ⟨gb189, 2, none⟩ = some (.int .i64 0) := (blk_cell BK189.out 2).trans rfl; have hcz11_3 : w9.cell? ⟨gb189, 3, none⟩ = some (.int .i64 0) := (blk_cell BK189.out 3).trans rfl; have hcz11_4 : w9.cell? ⟨gb189, 4, none⟩ = some (.int .i64 0) := (blk_cell BK189.out 4).trans rfl; have hfz11_0 := blk_frozen BK189.out 0; have hfz11_1 := blk_frozen BK189.out 1; have hfz11_2 := blk_frozen BK189.out 2; have hfz11_3 := blk_frozen BK189.out 3; have hfz11_4 := blk_frozen BK189.out 4) | ((with_reducible refine gate_callee (f := 11) rfl ?_); refine goesL_ (some 17) rfl rfl Tryd.func11 (by kernel_rfl) rfl #[.agg #[.int .i64 t184, .int .i64 t185, .int .i64 t186, .int .i64 t187, .int .i64 t188]] rfl (by (try simp only [List.map_toArray, List.map_cons, List.map_nil]); first | done | rfl | (simp only [List.length_drop, List.length_take]; rfl)) ?_; (with_reducible refine (caponierref02_Encode.calls k1 t184 t185 t186 t187 t188 t190 t191 _ A5.out).mono ?_); rintro e w12 ⟨rfl, hb⟩; refine ⟨_, rfl, ?_⟩; have n0_ := Aside0.mk (blk_below (g := gb183) (o := .cells #[.int .i64 x184000_1, .int .i64 x184001_1, .int .i64 x184002_1, .int .i64 x184003_1, .int .i64 x184004_1] 23 (0, 0)) (by (with_reducible repeat (first | refine blk_drewN ?_ _ | refine blk_drew ?_ | refine blk_alloc ?_ _)); refine blk_far ?_ NB183_189.out _; (with_reducible repeat (first | refine blk_drewN ?_ _ | refine blk_drew ?_ | refine blk_alloc ?_ _)); refine blk_far ?_ NB183_189.out _; (with_reducible repeat (first | refine blk_drewN ?_ _ | refine blk_drew ?_ | refine blk_alloc ?_ _)); refine blk_far ?_ NB183_189.out _; (with_reducible repeat (first | refine blk_drewN ?_ _ | refine blk_drew ?_ | refine blk_alloc ?_ _)); refine blk_far ?_ NB183_189.out _; (with_reducible repeat (first | refine blk_drewN ?_ _ | refine blk_drew ?_ | refine blk_alloc ?_ _)); refine blk_far ?_ NB183_189.out _; (with_reducible repeat (first | refine blk_drewN ?_ _ | refine blk_drew ?_ | refine blk_alloc ?_ _)); exact BK183.out) hb); have n1_ := Aside0.mk (blk_below (g := gb189) (o := .cells #[.int .i64 t184, .int .i64 t185, .int .i64 t186, .int .i64 t187, .int .i64 t188] 23 (0, 0)) (by (with_reducible repeat (first | refine blk_drewN ?_ _ | refine blk_drew ?_ | refine blk_alloc ?_ _)); refine blk_put (cs := #[.int .i64 t184, .int .i64 t185, .int .i64 t186, .int .i64 t187, .int .i64 0]) ?_ 4 _ rfl; (with_reducible repeat (first | refine blk_drewN ?_ _ | refine blk_drew ?_ | refine blk_alloc ?_ _)); refine blk_put (cs := #[.int .i64 t184, .int .i64 t185, .int .i64 t186, .int .i64 0, .int .i64 0]) ?_ 3 _ rfl; (with_reducible repeat (first | refine blk_drewN ?_ _ | refine blk_drew ?_ | refine blk_alloc ?_ _)); refine blk_put (cs := #[.int .i64 t184, .int .i64 t185, .int .i64 0, .int .i64 0, .int .i64 0]) ?_ 2 _ rfl; (with_reducible repeat (first | refine blk_drewN ?_ _ | refine blk_drew ?_ | refine blk_alloc ?_ _)); refine blk_put (cs := #[.int .i64 t184, .int .i64 0, .int .i64 0, .int .i64 0, .int .i64 0]) ?_ 1 _ rfl; (with_reducible repeat (first | refine blk_drewN ?_ _ | refine blk_drew ?_ | refine blk_alloc ?_ _)); refine blk_put (cs := #[.int .i64 0, .int .i64 0, .int .i64 0, .int .i64 0, .int .i64 0]) ?_ 0 _ rfl; (with_reducible repeat (first | refine blk_drewN ?_ _ | refine blk_drew ?_ | refine blk_alloc ?_ _)); exact BK189.out) hb); have n2_ := Aside0.mk (below_step (by repeat (first | (with_reducible first | exact HB.out | apply below_alloc | apply pw_below_drewN | apply below_drew1 | refine below_set ?_ GE183.out | refine below_set ?_ GE189.out) | exact HB.out)) hb); clear BK183; clear BK189; clear HB; have BK183 := n0_; have BK189 := n1_; have HB := n2_; clear n0_ n1_ n2_; (try clear hb); (try clear hb2); (try clear hk); (try clear hi); have hcz13_0 : w12.cell? ⟨gb189, 0, none⟩ = some (.int .i64 t184) := (blk_cell BK189.out 0).trans rfl; have hcz13_1 : w12.cell? ⟨gb189, 1, none⟩ = some (.int .i64 t185) := (blk_cell BK189.out 1).trans rfl; have hcz13_2 : w12.cell? ⟨gb189, 2, none⟩ = some (.int .i64 t186) := (blk_cell BK189.out 2).trans rfl; have hcz13_3 : w12.cell? ⟨gb189, 3, none⟩ = some (.int .i64 t187) := (blk_cell BK189.out 3).trans rfl; have hcz13_4 : w12.cell? ⟨gb189, 4, none⟩ = some (.int .i64 t188) := (blk_cell BK189.out 4).trans rfl; have hfz13_0 := blk_frozen BK189.out 0; have hfz13_1 := blk_frozen BK189.out 1; have hfz13_2 := blk_frozen BK189.out 2; have hfz13_3 := blk_frozen BK189.out 3; have hfz13_4 := blk_frozen BK189.out 4; have hcz14_0 : w12.cell? ⟨gb183, 0, none⟩ = some (.int .i64 x184000_1) := (blk_cell BK183.out 0).trans rfl; have hcz14_1 : w12.cell? ⟨gb183, 1, none⟩ = some (.int .i64 x184001_1) := (blk_cell BK183.out 1).trans rfl; have hcz14_2 : w12.cell? ⟨gb183, 2, none⟩ = some (.int .i64 x184002_1) := (blk_cell BK183.out 2).trans rfl; have hcz14_3 : w12.cell? ⟨gb183, 3, none⟩ = some (.int .i64 x184003_1) := (blk_cell BK183.out 3).trans rfl; have hcz14_4 : w12.cell? ⟨gb183, 4, none⟩ = some (.int .i64 x184004_1) := (blk_cell BK183.out 4).trans rfl; have hfz14_0 := blk_frozen BK183.out 0; have hfz14_1 := blk_frozen BK183.out 1; have hfz14_2 := blk_frozen BK183.out 2; have hfz14_3 := blk_frozen BK183.out 3; have hfz14_4 := blk_frozen BK183.out 4))
      refine bodyPost_ret (results_ct rfl _ _ gb183 23 #[.int .i64 t184, .int .i64 t185, .int .i64 t186, .int .i64 t187, .int .i64 t188] (0, 0) _ rfl (by (with_reducible repeat (first | refine blk_drewN ?_ _ | refine blk_drew ?_ | refine blk_alloc ?_ _)); refine blk_put (cs := #[.int .i64 t184, .int .i64 t185, .int .i64 t186, .int .i64 t187, .int .i64 x184004_1]) ?_ 4 _ rfl; (with_reducible repeat (first | refine blk_drewN ?_ _ | refine blk_drew ?_ | refine blk_alloc ?_ _)); refine blk_put (cs := #[.int .i64 t184, .int .i64 t185, .int .i64 t186, .int .i64 x184003_1, .int .i64 x184004_1]) ?_ 3 _ rfl; (with_reducible repeat (first | refine blk_drewN ?_ _ | refine blk_drew ?_ | refine blk_alloc ?_ _)); refine blk_put (cs := #[.int .i64 t184, .int .i64 t185, .int .i64 x184002_1, .int .i64 x184003_1, .int .i64 x184004_1]) ?_ 2 _ rfl; (with_reducible repeat (first | refine blk_drewN ?_ _ | refine blk_drew ?_ | refine blk_alloc ?_ _)); refine blk_put (cs := #[.int .i64 t184, .int .i64 x184001_1, .int .i64 x184002_1, .int .i64 x184003_1, .int .i64 x184004_1]) ?_ 1 _ rfl; (with_reducible repeat (first | refine blk_drewN ?_ _ | refine blk_drew ?_ | refine blk_alloc ?_ _)); refine blk_put (cs := #[.int .i64 x184000_1, .int .i64 x184001_1, .int .i64 x184002_1, .int .i64 x184003_1, .int .i64 x184004_1]) ?_ 0 _ rfl; (with_reducible repeat (first | refine blk_drewN ?_ _ | refine blk_drew ?_ | refine blk_alloc ?_ _)); exact BK183.out) Tryd.underlying23 rfl (by kernel_rfl)) rfl ?_
      exact ⟨by first | rfl | (simp [errW_none, errW_some] <;> rfl) | (simp [*, errW_none, errW_some] <;> rfl), by repeat (first | (with_reducible first | exact HB.out | apply below_alloc | apply pw_below_drewN | apply below_drew1 | refine below_set ?_ GE183.out | refine below_set ?_ GE189.out) | exact HB.out)⟩
     ·rw [if_neg c7] at H
      have c7b0 : (t190 == a0) = false := beq_eq_false_iff_ne.mpr c7
      have c7b1 : (t190 != a0) = true := bne_iff_ne.mpr c7
      have H' := Aside0.mk H
      clear H
      go_wp2_with (first | ((with_reducible refine gate_callee (f := 34) rfl ?_); refine goesL_ (some 14) rfl rfl Tryd.func34 (by kernel_rfl) rfl #[.int .u32 a0, .int .i64 x4_1] rfl (by (try simp only [List.map_toArray, List.map_cons, List.map_nil]); first | done | rfl | (simp only [List.length_drop, List.length_take]; rfl)) ?_; (with_reducible refine (caponierref02_as.calls k1 a0 x4_1 t184 t185 t186 t187 t188 _ A4.out).mono ?_); rintro e w15 ⟨rfl, hb⟩; refine ⟨_, rfl, ?_⟩; have n0_ := Aside0.mk (blk_below (g := gb183) (o := .cells #[.int .i64 x184000_1, .int .i64 x184001_1, .int .i64 x184002_1, .int .i64 x184003_1, .int .i64 x184004_1] 23 (0, 0)) (by (with_reducible repeat (first | refine blk_drewN ?_ _ | refine blk_drew ?_ | refine blk_alloc ?_ _)); exact BK183.out) hb); have n1_ := Aside0.mk (below_step (by repeat (first | (with_reducible first | exact HB.out | apply below_alloc | apply pw_below_drewN | apply below_drew1 | refine below_set ?_ GE183.out) | exact HB.out)) hb); clear BK183; clear HB; have BK183 := n0_; have HB := n1_; clear n0_ n1_; (try clear hb); (try clear hb2); (try clear hk); (try clear hi)) | ((with_reducible refine gate_dst (N := 5) rfl ?_); refine box_event ?hg (N := 5) ?hd (cs := #[.int .i64 0, .int .i64 0, .int .i64 0, .int .i64 0, .int .i64 0]) (t := 23) ?hr ?_; (case hd => rfl); (case hg => rfl); (case hr => first | (go_simp; done) | (go_simp; rfl)); intro gb189 hg w16 hbox hb; have n0_ := Aside0.mk (blk_below (g := gb183) (o := .cells #[.int .i64 x184000_1, .int .i64 x184001_1, .int .i64 x184002_1, .int .i64 x184003_1, .int .i64 x184004_1] 23 (0, 0)) (by (with_reducible repeat (first | refine blk_drewN ?_ _ | refine blk_drew ?_ | refine blk_alloc ?_ _)); exact BK183.out) hb); have n1_ := Aside0.mk (below_step (by repeat (first | (with_reducible first | exact HB.out | apply below_alloc | apply pw_below_drewN | apply below_drew1 | refine below_set ?_ GE183.out) | exact HB.out)) hb); have n2_ := Aside0.mk (hbox); have n3_ := Aside0.mk ((by rw [hg]; exact (below_size (by repeat (first | (with_reducible first | exact HB.out | apply below_alloc | apply pw_below_drewN | apply below_drew1 | refine below_set ?_ GE183.out) | exact HB.out))) : w.heap.size ≤ gb189)); have n4_ := Aside0.mk ((by rw [hg]; exact (below_size (by repeat (first | (with_reducible first | exact HB.out | apply below_alloc | apply pw_below_drewN | apply below_drew1 | refine below_set ?_ GE183.out) | exact HB.out))) : w.heap.size ≤ gb189)); have n5_ := Aside0.mk ((by rw [hg]; exact Nat.ne_of_lt (blk_lt (g := gb183) (o := .cells #[.int .i64 x184000_1, .int .i64 x184001_1, .int .i64 x184002_1, .int .i64 x184003_1, .int .i64 x184004_1] 23 (0, 0)) (by (with_reducible repeat (first | refine blk_drewN ?_ _ | refine blk_drew ?_ | refine blk_alloc ?_ _)); exact BK183.out)) : gb183 ≠ gb189)); have n6_ := Aside0.mk ((by rw [hg]; exact Nat.ne_of_gt (blk_lt (g := gb183) (o := .cells #[.int .i64 x184000_1, .int .i64 x184001_1, .int .i64 x184002_1, .int .i64 x184003_1, .int .i64 x184004_1] 23 (0, 0)) (by (with_reducible repeat (first | refine blk_drewN ?_ _ | refine blk_drew ?_ | refine blk_alloc ?_ _)); exact BK183.out)) : gb189 ≠ gb183)); clear BK183; clear HB; have BK183 := n0_; have HB := n1_; have BK189 := n2_; have GW189 := n3_; have GE189 := n4_; have NB183_189 := n5_; have NB189_183 := n6_; clear n0_ n1_ n2_ n3_ n4_ n5_ n6_; clear hb hbox hg; have hnb17 := NB189_183.out; have hnc17 := NB183_189.out; have hcz18_0 : w16.cell? ⟨gb189, 0, none⟩ = some (.int .i64 0) := (blk_cell BK189.out 0).trans rfl; have hcz18_1 : w16.cell? ⟨gb189, 1, none⟩ = some (.int .i64 0) := (blk_cell BK189.out 1).trans rfl; have hcz18_2 : w16.cell? ⟨gb189, 2, none⟩ = some (.int .i64 0) := (blk_cell BK189.out 2).trans rfl; have hcz18_3 : w16.cell? ⟨gb189, 3, none⟩ = some (.int .i64 0) := (blk_cell BK189.out 3).trans rfl; have hcz18_4 : w16.cell? ⟨gb189, 4, none⟩ = some (.int .i64 0) := (blk_cell BK189.out 4).trans rfl; have hfz18_0 := blk_frozen BK189.out 0; have hfz18_1 := blk_frozen BK189.out 1; have hfz18_2 := blk_frozen BK189.out 2; have hfz18_3 := blk_frozen BK189.out 3; have hfz18_4 := blk_frozen BK189.out 4) | ((with_reducible refine gate_callee (f := 11) rfl ?_); refine goesL_ (some 17) rfl rfl Tryd.func11 (by kernel_rfl) rfl #[.agg #[.int .i64 t184, .int .i64 t185, .int .i64 t186, .int .i64 t187, .int .i64 t188]] rfl (by (try simp only [List.map_toArray, List.map_cons, List.map_nil]); first | done | rfl | (simp only [List.length_drop, List.length_take]; rfl)) ?_; (with_reducible refine (caponierref02_Encode.calls k1 t184 t185 t186 t187 t188 t190 t191 _ A5.out).mono ?_); rintro e w19 ⟨rfl, hb⟩; refine ⟨_, rfl, ?_⟩; have n0_ := Aside0.mk (blk_below (g := gb183) (o := .cells #[.int .i64 x184000_1, .int .i64 x184001_1, .int .i64 x184002_1, .int .i64 x184003_1, .int .i64 x184004_1] 23 (0, 0)) (by (with_reducible repeat (first | refine blk_drewN ?_ _ | refine blk_drew ?_ | refine blk_alloc ?_ _)); refine blk_far ?_ NB183_189.out _; (with_reducible repeat (first | refine blk_drewN ?_ _ | refine blk_drew ?_ | refine blk_alloc ?_ _)); refine blk_far ?_ NB183_189.out _; (with_reducible repeat (first | refine blk_drewN ?_ _ | refine blk_drew ?_ | refine blk_alloc ?_ _)); refine blk_far ?_ NB183_189.out _; (with_reducible repeat (first | refine blk_drewN ?_ _ | refine blk_drew ?_ | refine blk_alloc ?_ _)); refine blk_far ?_ NB183_189.out _; (with_reducible repeat (first | refine blk_drewN ?_ _ | refine blk_drew ?_ | refine blk_alloc ?_ _)); refine blk_far ?_ NB183_189.out _; (with_reducible repeat (first | refine blk_drewN ?_ _ | refine blk_drew ?_ | refine blk_alloc ?_ _)); exact BK183.out) hb); have n1_ := Aside0.mk (blk_below (g := gb189) (o := .cells #[.int .i64 t184, .int .i64 t185, .int .i64 t186, .int .i64 t187, .int .i64 t188] 23 (0, 0)) (by (with_reducible repeat (first | refine blk_drewN ?_ _ | refine blk_drew ?_ | refine blk_alloc ?_ _)); refine blk_put (cs := #[.int .i64 t184, .int .i64 t185, .int .i64 t186, .int .i64 t187, .int .i64 0]) ?_ 4 _ rfl; (with_reducible repeat (first | refine blk_drewN ?_ _ | refine blk_drew ?_ | refine blk_alloc ?_ _)); refine blk_put (cs := #[.int .i64 t184, .int .i64 t185, .int .i64 t186, .int .i64 0, .int .i64 0]) ?_ 3 _ rfl; (with_reducible repeat (first | refine blk_drewN ?_ _ | refine blk_drew ?_ | refine blk_alloc ?_ _)); refine blk_put (cs := #[.int .i64 t184, .int .i64 t185, .int .i64 0, .int .i64 0, .int .i64 0]) ?_ 2 _ rfl; (with_reducible repeat (first | refine blk_drewN ?_ _ | refine blk_drew ?_ | refine blk_alloc ?_ _)); refine blk_put (cs := #[.int .i64 t184, .int .i64 0, .int .i64 0, .int .i64 0, .int .i64 0]) ?_ 1 _ rfl; (with_reducible repeat (first | refine blk_drewN ?_ _ | refine blk_drew ?_ | refine blk_alloc ?_ _)); refine blk_put (cs := #[.int .i64 0, .int .i64 0, .int .i64 0, .int .i64 0, .int .i64 0]) ?_ 0 _ rfl; (with_reducible repeat (first | refine blk_drewN ?_ _ | refine blk_drew ?_ | refine blk_alloc ?_ _)); exact BK189.out) hb); have n2_ := Aside0.mk (below_step (by repeat (first | (with_reducible first | exact HB.out | apply below_alloc | apply pw_below_drewN | apply below_drew1 | refine below_set ?_ GE183.out | refine below_set ?_ GE189.out) | exact HB.out)) hb); clear BK183; clear BK189; clear HB; have BK183 := n0_; have BK189 := n1_; have HB := n2_; clear n0_ n1_ n2_; (try clear hb); (try clear hb2); (try clear hk); (try clear hi)))
      go_roundg k1
      case measure => have := HK1.out; omega
      case rel => exact ⟨(wrap64 (x4_1 + 1)), (x184000_1), (x184001_1), (x184002_1), (x184003_1), (x184004_1), (by first | rfl | (simp; done) | (simp [*]; done)), H', ⟨by have := HK1.out; omega⟩, ⟨by (with_reducible repeat (first | refine blk_drewN ?_ _ | refine blk_drew ?_ | refine blk_alloc ?_ _)); exact BK183.out⟩, ⟨by repeat (first | (with_reducible first | exact HB.out | apply below_alloc | apply pw_below_drewN | apply below_drew1 | refine below_set ?_ GE183.out | refine below_set ?_ GE189.out) | exact HB.out)⟩⟩
    ·rw [if_neg c6] at H
     have c6b0 : (t191 == 0) = false := beq_eq_false_iff_ne.mpr c6
     have c6b1 : (t191 != 0) = true := bne_iff_ne.mpr c6
     have H' := Aside0.mk H
     clear H
     go_wp2_with (first | ((with_reducible refine gate_callee (f := 34) rfl ?_); refine goesL_ (some 14) rfl rfl Tryd.func34 (by kernel_rfl) rfl #[.int .u32 a0, .int .i64 x4_1] rfl (by (try simp only [List.map_toArray, List.map_cons, List.map_nil]); first | done | rfl | (simp only [List.length_drop, List.length_take]; rfl)) ?_; (with_reducible refine (caponierref02_as.calls k1 a0 x4_1 t184 t185 t186 t187 t188 _ A4.out).mono ?_); rintro e w20 ⟨rfl, hb⟩; refine ⟨_, rfl, ?_⟩; have n0_ := Aside0.mk (blk_below (g := gb183) (o := .cells #[.int .i64 x184000_1, .int .i64 x184001_1, .int .i64 x184002_1, .int .i64 x184003_1, .int .i64 x184004_1] 23 (0, 0)) (by (with_reducible repeat (first | refine blk_drewN ?_ _ | refine blk_drew ?_ | refine blk_alloc ?_ _)); exact BK183.out) hb); have n1_ := Aside0.mk (below_step (by repeat (first | (with_reducible first | exact HB.out | apply below_alloc | apply pw_below_drewN | apply below_drew1 | refine below_set ?_ GE183.out) | exact HB.out)) hb); clear BK183; clear HB; have BK183 := n0_; have HB := n1_; clear n0_ n1_; (try clear hb); (try clear hb2); (try clear hk); (try clear hi)) | ((with_reducible refine gate_dst (N := 5) rfl ?_); refine box_event ?hg (N := 5) ?hd (cs := #[.int .i64 0, .int .i64 0, .int .i64 0, .int .i64 0, .int .i64 0]) (t := 23) ?hr ?_; (case hd => rfl); (case hg => rfl); (case hr => first | (go_simp; done) | (go_simp; rfl)); intro gb189 hg w21 hbox hb; have n0_ := Aside0.mk (blk_below (g := gb183) (o := .cells #[.int .i64 x184000_1, .int .i64 x184001_1, .int .i64 x184002_1, .int .i64 x184003_1, .int .i64 x184004_1] 23 (0, 0)) (by (with_reducible repeat (first | refine blk_drewN ?_ _ | refine blk_drew ?_ | refine blk_alloc ?_ _)); exact BK183.out) hb); have n1_ := Aside0.mk (below_step (by repeat (first | (with_reducible first | exact HB.out | apply below_alloc | apply pw_below_drewN | apply below_drew1 | refine below_set ?_ GE183.out) | exact HB.out)) hb); have n2_ := Aside0.mk (hbox); have n3_ := Aside0.mk ((by rw [hg]; exact (below_size (by repeat (first | (with_reducible first | exact HB.out | apply below_alloc | apply pw_below_drewN | apply below_drew1 | refine below_set ?_ GE183.out) | exact HB.out))) : w.heap.size ≤ gb189)); have n4_ := Aside0.mk ((by rw [hg]; exact (below_size (by repeat (first | (with_reducible first | exact HB.out | apply below_alloc | apply pw_below_drewN | apply below_drew1 | refine below_set ?_ GE183.out) | exact HB.out))) : w.heap.size ≤ gb189)); have n5_ := Aside0.mk ((by rw [hg]; exact Nat.ne_of_lt (blk_lt (g := gb183) (o := .cells #[.int .i64 x184000_1, .int .i64 x184001_1, .int .i64 x184002_1, .int .i64 x184003_1, .int .i64 x184004_1] 23 (0, 0)) (by (with_reducible repeat (first | refine blk_drewN ?_ _ | refine blk_drew ?_ | refine blk_alloc ?_ _)); exact BK183.out)) : gb183 ≠ gb189)); have n6_ := Aside0.mk ((by rw [hg]; exact Nat.ne_of_gt (blk_lt (g := gb183) (o := .cells #[.int .i64 x184000_1, .int .i64 x184001_1, .int .i64 x184002_1, .int .i64 x184003_1, .int .i64 x184004_1] 23 (0, 0)) (by (with_reducible repeat (first | refine blk_drewN ?_ _ | refine blk_drew ?_ | refine blk_alloc ?_ _)); exact BK183.out)) : gb189 ≠ gb183)); clear BK183; clear HB; have BK183 := n0_; have HB := n1_; have BK189 := n2_; have GW189 := n3_; have GE189 := n4_; have NB183_189 := n5_; have NB189_183 := n6_; clear n0_ n1_ n2_ n3_ n4_ n5_ n6_; clear hb hbox hg; have hnb22 := NB189_183.out; have hnc22 := NB183_189.out; have hcz23_0 : w21.cell? ⟨gb189, 0, none⟩ = some (.int .i64 0) := (blk_cell BK189.out 0).trans rfl; have hcz23_1 : w21.cell? ⟨gb189, 1, none⟩ = some (.int .i64 0) := (blk_cell BK189.out 1).trans rfl; have hcz23_2 : w21.cell? ⟨gb189, 2, none⟩ = some (.int .i64 0) := (blk_cell BK189.out 2).trans rfl; have hcz23_3 : w21.cell? ⟨gb189, 3, none⟩ = some (.int .i64 0) := (blk_cell BK189.out 3).trans rfl; have hcz23_4 : w21.cell? ⟨gb189, 4, none⟩ = some (.int .i64 0) := (blk_cell BK189.out 4).trans rfl; have hfz23_0 := blk_frozen BK189.out 0; have hfz23_1 := blk_frozen BK189.out 1; have hfz23_2 := blk_frozen BK189.out 2; have hfz23_3 := blk_frozen BK189.out 3; have hfz23_4 := blk_frozen BK189.out 4) | ((with_reducible refine gate_callee (f := 11) rfl ?_); refine goesL_ (some 17) rfl rfl Tryd.func11 (by kernel_rfl) rfl #[.agg #[.int .i64 t184, .int .i64 t185, .int .i64 t186, .int .i64 t187, .int .i64 t188]] rfl (by (try simp only [List.map_toArray, List.map_cons, List.map_nil]); first | done | rfl | (simp only [List.length_drop, List.length_take]; rfl)) ?_; (with_reducible refine (caponierref02_Encode.calls k1 t184 t185 t186 t187 t188 t190 t191 _ A5.out).mono ?_); rintro e w24 ⟨rfl, hb⟩; refine ⟨_, rfl, ?_⟩; have n0_ := Aside0.mk (blk_below (g := gb183) (o := .cells #[.int .i64 x184000_1, .int .i64 x184001_1, .int .i64 x184002_1, .int .i64 x184003_1, .int .i64 x184004_1] 23 (0, 0)) (by (with_reducible repeat (first | refine blk_drewN ?_ _ | refine blk_drew ?_ | refine blk_alloc ?_ _)); refine blk_far ?_ NB183_189.out _; (with_reducible repeat (first | refine blk_drewN ?_ _ | refine blk_drew ?_ | refine blk_alloc ?_ _)); refine blk_far ?_ NB183_189.out _; (with_reducible repeat (first | refine blk_drewN ?_ _ | refine blk_drew ?_ | refine blk_alloc ?_ _)); refine blk_far ?_ NB183_189.out _; (with_reducible repeat (first | refine blk_drewN ?_ _ | refine blk_drew ?_ | refine blk_alloc ?_ _)); refine blk_far ?_ NB183_189.out _; (with_reducible repeat (first | refine blk_drewN ?_ _ | refine blk_drew ?_ | refine blk_alloc ?_ _)); refine blk_far ?_ NB183_189.out _; (with_reducible repeat (first | refine blk_drewN ?_ _ | refine blk_drew ?_ | refine blk_alloc ?_ _)); exact BK183.out) hb); have n1_ := Aside0.mk (blk_below (g := gb189) (o := .cells #[.int .i64 t184, .int .i64 t185, .int .i64 t186, .int .i64 t187, .int .i64 t188] 23 (0, 0)) (by (with_reducible repeat (first | refine blk_drewN ?_ _ | refine blk_drew ?_ | refine blk_alloc ?_ _)); refine blk_put (cs := #[.int .i64 t184, .int .i64 t185, .int .i64 t186, .int .i64 t187, .int .i64 0]) ?_ 4 _ rfl; (with_reducible repeat (first | refine blk_drewN ?_ _ | refine blk_drew ?_ | refine blk_alloc ?_ _)); refine blk_put (cs := #[.int .i64 t184, .int .i64 t185, .int .i64 t186, .int .i64 0, .int .i64 0]) ?_ 3 _ rfl; (with_reducible repeat (first | refine blk_drewN ?_ _ | refine blk_drew ?_ | refine blk_alloc ?_ _)); refine blk_put (cs := #[.int .i64 t184, .int .i64 t185, .int .i64 0, .int .i64 0, .int .i64 0]) ?_ 2 _ rfl; (with_reducible repeat (first | refine blk_drewN ?_ _ | refine blk_drew ?_ | refine blk_alloc ?_ _)); refine blk_put (cs := #[.int .i64 t184, .int .i64 0, .int .i64 0, .int .i64 0, .int .i64 0]) ?_ 1 _ rfl; (with_reducible repeat (first | refine blk_drewN ?_ _ | refine blk_drew ?_ | refine blk_alloc ?_ _)); refine blk_put (cs := #[.int .i64 0, .int .i64 0, .int .i64 0, .int .i64 0, .int .i64 0]) ?_ 0 _ rfl; (with_reducible repeat (first | refine blk_drewN ?_ _ | refine blk_drew ?_ | refine blk_alloc ?_ _)); exact BK189.out) hb); have n2_ := Aside0.mk (below_step (by repeat (first | (with_reducible first | exact HB.out | apply below_alloc | apply pw_below_drewN | apply below_drew1 | refine below_set ?_ GE183.out | refine below_set ?_ GE189.out) | exact HB.out)) hb); clear BK183; clear BK189; clear HB; have BK183 := n0_; have BK189 := n1_; have HB := n2_; clear n0_ n1_ n2_; (try clear hb); (try clear hb2); (try clear hk); (try clear hi)))
     go_roundg k1
     case measure => have := HK1.out; omega
     case rel => exact ⟨(wrap64 (x4_1 + 1)), (x184000_1), (x184001_1), (x184002_1), (x184003_1), (x184004_1), (by first | rfl | (simp; done) | (simp [*]; done)), H', ⟨by have := HK1.out; omega⟩, ⟨by (with_reducible repeat (first | refine blk_drewN ?_ _ | refine blk_drew ?_ | refine blk_alloc ?_ _)); exact BK183.out⟩, ⟨by repeat (first | (with_reducible first | exact HB.out | apply below_alloc | apply pw_below_drewN | apply below_drew1 | refine below_set ?_ GE183.out | refine below_set ?_ GE189.out) | exact HB.out)⟩⟩
   ·rw [if_neg c3] at H
    have c3b0 : decide (x4_1 ≤ 42) = false := decide_eq_false c3
    clear c3
    simp only [Option.some.injEq, Prod.mk.injEq] at H
    obtain ⟨rfl, rfl, rfl, rfl, rfl, rfl⟩ := H
    have hcz25_0 : wr.cell? ⟨gb183, 0, none⟩ = some (.int .i64 x184000_1) := (blk_cell BK183.out 0).trans rfl
    have hcz25_1 : wr.cell? ⟨gb183, 1, none⟩ = some (.int .i64 x184001_1) := (blk_cell BK183.out 1).trans rfl
    have hcz25_2 : wr.cell? ⟨gb183, 2, none⟩ = some (.int .i64 x184002_1) := (blk_cell BK183.out 2).trans rfl
    have hcz25_3 : wr.cell? ⟨gb183, 3, none⟩ = some (.int .i64 x184003_1) := (blk_cell BK183.out 3).trans rfl
    have hcz25_4 : wr.cell? ⟨gb183, 4, none⟩ = some (.int .i64 x184004_1) := (blk_cell BK183.out 4).trans rfl
    have hfz25_0 := blk_frozen BK183.out 0
    have hfz25_1 := blk_frozen BK183.out 1
    have hfz25_2 := blk_frozen BK183.out 2
    have hfz25_3 := blk_frozen BK183.out 3
    have hfz25_4 := blk_frozen BK183.out 4
    go_wp2
    refine bodyPost_ret (results_ct rfl _ _ gb183 23 #[.int .i64 0, .int .i64 0, .int .i64 0, .int .i64 0, .int .i64 0] (0, 0) _ rfl (by (with_reducible repeat (first | refine blk_drewN ?_ _ | refine blk_drew ?_ | refine blk_alloc ?_ _)); refine blk_put (cs := #[.int .i64 0, .int .i64 0, .int .i64 0, .int .i64 0, .int .i64 x184004_1]) ?_ 4 _ rfl; (with_reducible repeat (first | refine blk_drewN ?_ _ | refine blk_drew ?_ | refine blk_alloc ?_ _)); refine blk_put (cs := #[.int .i64 0, .int .i64 0, .int .i64 0, .int .i64 x184003_1, .int .i64 x184004_1]) ?_ 3 _ rfl; (with_reducible repeat (first | refine blk_drewN ?_ _ | refine blk_drew ?_ | refine blk_alloc ?_ _)); refine blk_put (cs := #[.int .i64 0, .int .i64 0, .int .i64 x184002_1, .int .i64 x184003_1, .int .i64 x184004_1]) ?_ 2 _ rfl; (with_reducible repeat (first | refine blk_drewN ?_ _ | refine blk_drew ?_ | refine blk_alloc ?_ _)); refine blk_put (cs := #[.int .i64 0, .int .i64 x184001_1, .int .i64 x184002_1, .int .i64 x184003_1, .int .i64 x184004_1]) ?_ 1 _ rfl; (with_reducible repeat (first | refine blk_drewN ?_ _ | refine blk_drew ?_ | refine blk_alloc ?_ _)); refine blk_put (cs := #[.int .i64 x184000_1, .int .i64 x184001_1, .int .i64 x184002_1, .int .i64 x184003_1, .int .i64 x184004_1]) ?_ 0 _ rfl; (with_reducible repeat (first | refine blk_drewN ?_ _ | refine blk_drew ?_ | refine blk_alloc ?_ _)); exact BK183.out) Tryd.underlying23 rfl (by kernel_rfl)) rfl ?_
    exact ⟨by first | rfl | (simp [errW_none, errW_some] <;> rfl) | (simp [*, errW_none, errW_some] <;> rfl), by repeat (first | (with_reducible first | exact HB.out | apply below_alloc | apply pw_below_drewN | apply below_drew1 | refine below_set ?_ GE183.out) | exact HB.out)⟩

/-! ### caponierlaw02_InsDecodes: function 4 -/
def caponierlaw02_InsDecodes.j0 : Nat → Int → Int → Bool → Int → Int → Int → Int → Int → Option (Bool)
 | 0, _, _, _, _, _, _, _, _ => none
 | k + 1, x0, x4, x28, xe0, xe1, xe2, xe3, xe4 => if x28 = true then (some false) else (if x4 = 0 then ((ins_Encode.f xe0 xe1 xe2 xe3 xe4).bind fun bt207 => (if bt207.2 = 0 then (if bt207.1 = x0 then ((ins_May.f xe0 xe1 xe2 xe3 xe4).bind fun t209 => (some t209)) else (some false)) else (some false))) else (some (xe0 == 0 && (xe1 == 0 && (xe2 == 0 && (xe3 == 0 && (xe4 == 0)))))))
def caponierlaw02_InsDecodes.f (k : Nat) (a0 : Int) : Option (Bool) := (caponierlaw02_awake.f).bind fun t192 => (if t192 = true then ((ins_Decode.f a0).bind fun bt193 => ((caponierref02_Decode.f k a0).bind fun bt200 => (if (!(bt193.1 == bt200.1) || (!(bt193.2.1 == bt200.2.1) || (!(bt193.2.2.1 == bt200.2.2.1) || (!(bt193.2.2.2.1 == bt200.2.2.2.1) || (!(bt193.2.2.2.2.1 == bt200.2.2.2.2.1)))))) = true then (caponierlaw02_InsDecodes.j0 k a0 bt193.2.2.2.2.2 true bt193.1 bt193.2.1 bt193.2.2.1 bt193.2.2.2.1 bt193.2.2.2.2.1) else (caponierlaw02_InsDecodes.j0 k a0 bt193.2.2.2.2.2 (bt193.2.2.2.2.2 != bt200.2.2.2.2.2) bt193.1 bt193.2.1 bt193.2.2.1 bt193.2.2.2.1 bt193.2.2.2.2.1)))) else (some false))
theorem caponierlaw02_InsDecodes.mono_l : ∀ k, (∀ y0 y1 y2 y3 y4 y5 y6 y7, LeO (caponierlaw02_InsDecodes.j0 k y0 y1 y2 y3 y4 y5 y6 y7) (caponierlaw02_InsDecodes.j0 (k + 1) y0 y1 y2 y3 y4 y5 y6 y7))
 | 0 => fun _ _ _ _ _ _ _ _ r h => by simp [caponierlaw02_InsDecodes.j0] at h
 | k + 1 => by
  have ih0 := caponierlaw02_InsDecodes.mono_l k
  ·intro y0 y1 y2 y3 y4 y5 y6 y7
   unfold caponierlaw02_InsDecodes.j0
   repeat' first
   | (with_reducible exact ih0 _ _ _ _ _ _ _ _)
   | (with_reducible exact caponierref02_Decode.mono _ _)
   | (with_reducible exact LeO.refl _)
   | (with_reducible exact LeO.none _)
   | (with_reducible refine LeO.ite ?_ ?_)
   | (with_reducible refine LeO.bind ?_ (fun _ => ?_))
   | exact ih0 _ _ _ _ _ _ _ _
   | exact caponierref02_Decode.mono _ _
   | exact LeO.none _
   | refine LeO.ite ?_ ?_
   | refine LeO.bind ?_ (fun _ => ?_)
theorem caponierlaw02_InsDecodes.mono : ∀ a0 k, LeO (caponierlaw02_InsDecodes.f k a0) (caponierlaw02_InsDecodes.f (k + 1) a0) := by
 intro a0 k
 have ih0 := caponierlaw02_InsDecodes.mono_l k
 unfold caponierlaw02_InsDecodes.f
 repeat' first
   | (with_reducible exact ih0 _ _ _ _ _ _ _ _)
   | (with_reducible exact caponierref02_Decode.mono _ _)
   | (with_reducible exact LeO.refl _)
   | (with_reducible exact LeO.none _)
   | (with_reducible refine LeO.ite ?_ ?_)
   | (with_reducible refine LeO.bind ?_ (fun _ => ?_))
   | exact ih0 _ _ _ _ _ _ _ _
   | exact caponierref02_Decode.mono _ _
   | exact LeO.none _
   | refine LeO.ite ?_ ?_
   | refine LeO.bind ?_ (fun _ => ?_)
set_option maxHeartbeats 8000000 in
set_option maxRecDepth 100000 in
theorem caponierlaw02_InsDecodes.calls (k : Nat) (a0 : Int) (r : Bool) (w : World) (h : caponierlaw02_InsDecodes.f k a0 = some r) (L : Go.Proofs.YtbdlhhajblhmiaaDoor.Ins.Laid w) :
  Calls Tryd.prog 4 #[.int .u32 a0] w fun e w' => e = .returned (.bool r) ∧ Below w.heap.size w w' := by
 have hu23 := Tryd.underlying23
 have HB := Aside0.mk (Below.refl w.heap.size w)
 have H : ((caponierlaw02_awake.f).bind fun t192 => (if t192 = true then ((ins_Decode.f a0).bind fun bt193 => ((caponierref02_Decode.f k a0).bind fun bt200 => (if (!(bt193.1 == bt200.1) || (!(bt193.2.1 == bt200.2.1) || (!(bt193.2.2.1 == bt200.2.2.1) || (!(bt193.2.2.2.1 == bt200.2.2.2.1) || (!(bt193.2.2.2.2.1 == bt200.2.2.2.2.1)))))) = true then (caponierlaw02_InsDecodes.j0 k a0 bt193.2.2.2.2.2 true bt193.1 bt193.2.1 bt193.2.2.1 bt193.2.2.2.1 bt193.2.2.2.2.1) else (caponierlaw02_InsDecodes.j0 k a0 bt193.2.2.2.2.2 (bt193.2.2.2.2.2 != bt200.2.2.2.2.2) bt193.1 bt193.2.1 bt193.2.2.1 bt193.2.2.2.1 bt193.2.2.2.2.1)))) else (some false))) = some r := h
 clear h
 replace H := Option.bind_eq_some_iff.mp H
 obtain ⟨t192, A20, H⟩ := H
 replace H : (if t192 = true then ((ins_Decode.f a0).bind fun bt193 => ((caponierref02_Decode.f k a0).bind fun bt200 => (if (!(bt193.1 == bt200.1) || (!(bt193.2.1 == bt200.2.1) || (!(bt193.2.2.1 == bt200.2.2.1) || (!(bt193.2.2.2.1 == bt200.2.2.2.1) || (!(bt193.2.2.2.2.1 == bt200.2.2.2.2.1)))))) = true then (caponierlaw02_InsDecodes.j0 k a0 bt193.2.2.2.2.2 true bt193.1 bt193.2.1 bt193.2.2.1 bt193.2.2.2.1 bt193.2.2.2.2.1) else (caponierlaw02_InsDecodes.j0 k a0 bt193.2.2.2.2.2 (bt193.2.2.2.2.2 != bt200.2.2.2.2.2) bt193.1 bt193.2.1 bt193.2.2.1 bt193.2.2.2.1 bt193.2.2.2.2.1)))) else (some false)) = some r := H
 have A2 := Aside0.mk A20
 clear A20
 by_cases c3 : t192 = true
 ·subst c3
  have H1 : ((ins_Decode.f a0).bind fun bt193 => ((caponierref02_Decode.f k a0).bind fun bt200 => (if (!(bt193.1 == bt200.1) || (!(bt193.2.1 == bt200.2.1) || (!(bt193.2.2.1 == bt200.2.2.1) || (!(bt193.2.2.2.1 == bt200.2.2.2.1) || (!(bt193.2.2.2.2.1 == bt200.2.2.2.2.1)))))) = true then (caponierlaw02_InsDecodes.j0 k a0 bt193.2.2.2.2.2 true bt193.1 bt193.2.1 bt193.2.2.1 bt193.2.2.2.1 bt193.2.2.2.2.1) else (caponierlaw02_InsDecodes.j0 k a0 bt193.2.2.2.2.2 (bt193.2.2.2.2.2 != bt200.2.2.2.2.2) bt193.1 bt193.2.1 bt193.2.2.1 bt193.2.2.2.1 bt193.2.2.2.2.1)))) = some r := by rw [if_pos rfl] at H; exact H
  clear H
  have H := H1
  clear H1
  replace H := Option.bind_eq_some_iff.mp H
  obtain ⟨⟨t193, t194, t195, t196, t197, t198⟩, A40, H⟩ := H
  replace H : ((caponierref02_Decode.f k a0).bind fun bt200 => (if (!(t193 == bt200.1) || (!(t194 == bt200.2.1) || (!(t195 == bt200.2.2.1) || (!(t196 == bt200.2.2.2.1) || (!(t197 == bt200.2.2.2.2.1)))))) = true then (caponierlaw02_InsDecodes.j0 k a0 t198 true t193 t194 t195 t196 t197) else (caponierlaw02_InsDecodes.j0 k a0 t198 (t198 != bt200.2.2.2.2.2) t193 t194 t195 t196 t197))) = some r := H
  have A4 := Aside0.mk A40
  clear A40
  replace H := Option.bind_eq_some_iff.mp H
  obtain ⟨⟨t200, t201, t202, t203, t204, t205⟩, A50, H⟩ := H
  replace H : (if (!(t193 == t200) || (!(t194 == t201) || (!(t195 == t202) || (!(t196 == t203) || (!(t197 == t204)))))) = true then (caponierlaw02_InsDecodes.j0 k a0 t198 true t193 t194 t195 t196 t197) else (caponierlaw02_InsDecodes.j0 k a0 t198 (t198 != t205) t193 t194 t195 t196 t197)) = some r := H
  have A5 := Aside0.mk A50
  clear A50
  have HC6 := Aside0.mk H
  clear H
  go_enter Tryd.func4, Tryd.ntmps4
  go_upto_region 5 with (first | ((with_reducible refine gate_callee (f := 9) rfl ?_); refine goesL_ (some 9) rfl rfl Tryd.func9 (by kernel_rfl) rfl #[] rfl (by (try simp only [List.map_toArray, List.map_cons, List.map_nil]); first | done | rfl | (simp only [List.length_drop, List.length_take]; rfl)) ?_; (with_reducible refine (caponierlaw02_awake.calls  true _ A2.out (by first | exact L | exact L.below (by repeat (first | (with_reducible first | exact HB.out | apply below_alloc | apply pw_below_drewN | apply below_drew1 | refine below_set ?_ GE199.out | refine below_set ?_ GE206.out) | exact HB.out)))).mono ?_); rintro e w7 ⟨rfl, hb⟩; refine ⟨_, rfl, ?_⟩; have n0_ := Aside0.mk (below_step (by repeat (first | (with_reducible first | exact HB.out | apply below_alloc | apply pw_below_drewN | apply below_drew1) | exact HB.out)) hb); clear HB; have HB := n0_; clear n0_; (try clear hb); (try clear hb2); (try clear hk); (try clear hi)) | ((with_reducible refine gate_callee (f := 16) rfl ?_); refine goesL_ (some 13) rfl rfl Tryd.func16 (by kernel_rfl) rfl #[.int .u32 a0] rfl (by (try simp only [List.map_toArray, List.map_cons, List.map_nil]); first | done | rfl | (simp only [List.length_drop, List.length_take]; rfl)) ?_; (with_reducible refine (ins_Decode.calls a0 t193 t194 t195 t196 t197 t198 _ A4.out (by first | exact L | exact L.below (by repeat (first | (with_reducible first | exact HB.out | apply below_alloc | apply pw_below_drewN | apply below_drew1 | refine below_set ?_ GE199.out | refine below_set ?_ GE206.out) | exact HB.out)))).mono ?_); rintro e w8 ⟨rfl, hb⟩; refine ⟨_, rfl, ?_⟩; have n0_ := Aside0.mk (below_step (by repeat (first | (with_reducible first | exact HB.out | apply below_alloc | apply pw_below_drewN | apply below_drew1) | exact HB.out)) hb); clear HB; have HB := n0_; clear n0_; (try clear hb); (try clear hb2); (try clear hk); (try clear hi)) | ((with_reducible refine gate_dst (N := 3) rfl ?_); refine box_event ?hg (N := 3) ?hd (cs := #[.int .i64 0, .int .i64 0, .int .i64 0, .int .i64 0, .int .i64 0]) (t := 23) ?hr ?_; (case hd => rfl); (case hg => rfl); (case hr => first | (go_simp; done) | (go_simp; rfl)); intro gb199 hg w9 hbox hb; have n0_ := Aside0.mk (below_step (by repeat (first | (with_reducible first | exact HB.out | apply below_alloc | apply pw_below_drewN | apply below_drew1) | exact HB.out)) hb); have n1_ := Aside0.mk (hbox); have n2_ := Aside0.mk ((by rw [hg]; exact (below_size (by repeat (first | (with_reducible first | exact HB.out | apply below_alloc | apply pw_below_drewN | apply below_drew1) | exact HB.out))) : w.heap.size ≤ gb199)); have n3_ := Aside0.mk ((by rw [hg]; exact (below_size (by repeat (first | (with_reducible first | exact HB.out | apply below_alloc | apply pw_below_drewN | apply below_drew1) | exact HB.out))) : w.heap.size ≤ gb199)); clear HB; have HB := n0_; have BK199 := n1_; have GW199 := n2_; have GE199 := n3_; clear n0_ n1_ n2_ n3_; clear hb hbox hg; have hcz10_0 : w9.cell? ⟨gb199, 0, none⟩ = some (.int .i64 0) := (blk_cell BK199.out 0).trans rfl; have hcz10_1 : w9.cell? ⟨gb199, 1, none⟩ = some (.int .i64 0) := (blk_cell BK199.out 1).trans rfl; have hcz10_2 : w9.cell? ⟨gb199, 2, none⟩ = some (.int .i64 0) := (blk_cell BK199.out 2).trans rfl; have hcz10_3 : w9.cell? ⟨gb199, 3, none⟩ = some (.int .i64 0) := (blk_cell BK199.out 3).trans rfl; have hcz10_4 : w9.cell? ⟨gb199, 4, none⟩ = some (.int .i64 0) := (blk_cell BK199.out 4).trans rfl; have hfz10_0 := blk_frozen BK199.out 0; have hfz10_1 := blk_frozen BK199.out 1; have hfz10_2 := blk_frozen BK199.out 2; have hfz10_3 := blk_frozen BK199.out 3; have hfz10_4 := blk_frozen BK199.out 4) | ((with_reducible refine gate_callee (f := 17) rfl ?_); refine goesL_ (some 18) rfl rfl Tryd.func17 (by kernel_rfl) rfl #[.int .u32 a0] rfl (by (try simp only [List.map_toArray, List.map_cons, List.map_nil]); first | done | rfl | (simp only [List.length_drop, List.length_take]; rfl)) ?_; (with_reducible refine (caponierref02_Decode.calls k a0 t200 t201 t202 t203 t204 t205 _ A5.out).mono ?_); rintro e w11 ⟨rfl, hb⟩; refine ⟨_, rfl, ?_⟩; have n0_ := Aside0.mk (blk_below (g := gb199) (o := .cells #[.int .i64 t193, .int .i64 t194, .int .i64 t195, .int .i64 t196, .int .i64 t197] 23 (0, 0)) (by (with_reducible repeat (first | refine blk_drewN ?_ _ | refine blk_drew ?_ | refine blk_alloc ?_ _)); refine blk_put (cs := #[.int .i64 t193, .int .i64 t194, .int .i64 t195, .int .i64 t196, .int .i64 0]) ?_ 4 _ rfl; (with_reducible repeat (first | refine blk_drewN ?_ _ | refine blk_drew ?_ | refine blk_alloc ?_ _)); refine blk_put (cs := #[.int .i64 t193, .int .i64 t194, .int .i64 t195, .int .i64 0, .int .i64 0]) ?_ 3 _ rfl; (with_reducible repeat (first | refine blk_drewN ?_ _ | refine blk_drew ?_ | refine blk_alloc ?_ _)); refine blk_put (cs := #[.int .i64 t193, .int .i64 t194, .int .i64 0, .int .i64 0, .int .i64 0]) ?_ 2 _ rfl; (with_reducible repeat (first | refine blk_drewN ?_ _ | refine blk_drew ?_ | refine blk_alloc ?_ _)); refine blk_put (cs := #[.int .i64 t193, .int .i64 0, .int .i64 0, .int .i64 0, .int .i64 0]) ?_ 1 _ rfl; (with_reducible repeat (first | refine blk_drewN ?_ _ | refine blk_drew ?_ | refine blk_alloc ?_ _)); refine blk_put (cs := #[.int .i64 0, .int .i64 0, .int .i64 0, .int .i64 0, .int .i64 0]) ?_ 0 _ rfl; (with_reducible repeat (first | refine blk_drewN ?_ _ | refine blk_drew ?_ | refine blk_alloc ?_ _)); exact BK199.out) hb); have n1_ := Aside0.mk (below_step (by repeat (first | (with_reducible first | exact HB.out | apply below_alloc | apply pw_below_drewN | apply below_drew1 | refine below_set ?_ GE199.out) | exact HB.out)) hb); clear BK199; clear HB; have BK199 := n0_; have HB := n1_; clear n0_ n1_; (try clear hb); (try clear hb2); (try clear hk); (try clear hi)) | ((with_reducible refine gate_dst (N := 5) rfl ?_); refine box_event ?hg (N := 5) ?hd (cs := #[.int .i64 0, .int .i64 0, .int .i64 0, .int .i64 0, .int .i64 0]) (t := 23) ?hr ?_; (case hd => rfl); (case hg => rfl); (case hr => first | (go_simp; done) | (go_simp; rfl)); intro gb206 hg w12 hbox hb; have n0_ := Aside0.mk (blk_below (g := gb199) (o := .cells #[.int .i64 t193, .int .i64 t194, .int .i64 t195, .int .i64 t196, .int .i64 t197] 23 (0, 0)) (by (with_reducible repeat (first | refine blk_drewN ?_ _ | refine blk_drew ?_ | refine blk_alloc ?_ _)); exact BK199.out) hb); have n1_ := Aside0.mk (below_step (by repeat (first | (with_reducible first | exact HB.out | apply below_alloc | apply pw_below_drewN | apply below_drew1 | refine below_set ?_ GE199.out) | exact HB.out)) hb); have n2_ := Aside0.mk (hbox); have n3_ := Aside0.mk ((by rw [hg]; exact (below_size (by repeat (first | (with_reducible first | exact HB.out | apply below_alloc | apply pw_below_drewN | apply below_drew1 | refine below_set ?_ GE199.out) | exact HB.out))) : w.heap.size ≤ gb206)); have n4_ := Aside0.mk ((by rw [hg]; exact (below_size (by repeat (first | (with_reducible first | exact HB.out | apply below_alloc | apply pw_below_drewN | apply below_drew1 | refine below_set ?_ GE199.out) | exact HB.out))) : w.heap.size ≤ gb206)); have n5_ := Aside0.mk ((by rw [hg]; exact Nat.ne_of_lt (blk_lt (g := gb199) (o := .cells #[.int .i64 t193, .int .i64 t194, .int .i64 t195, .int .i64 t196, .int .i64 t197] 23 (0, 0)) (by (with_reducible repeat (first | refine blk_drewN ?_ _ | refine blk_drew ?_ | refine blk_alloc ?_ _)); exact BK199.out)) : gb199 ≠ gb206)); have n6_ := Aside0.mk ((by rw [hg]; exact Nat.ne_of_gt (blk_lt (g := gb199) (o := .cells #[.int .i64 t193, .int .i64 t194, .int .i64 t195, .int .i64 t196, .int .i64 t197] 23 (0, 0)) (by (with_reducible repeat (first | refine blk_drewN ?_ _ | refine blk_drew ?_ | refine blk_alloc ?_ _)); exact BK199.out)) : gb206 ≠ gb199)); clear BK199; clear HB; have BK199 := n0_; have HB := n1_; have BK206 := n2_; have GW206 := n3_; have GE206 := n4_; have NB199_206 := n5_; have NB206_199 := n6_; clear n0_ n1_ n2_ n3_ n4_ n5_ n6_; clear hb hbox hg; have hnb13 := NB206_199.out; have hnc13 := NB199_206.out; have hcz14_0 : w12.cell? ⟨gb206, 0, none⟩ = some (.int .i64 0) := (blk_cell BK206.out 0).trans rfl; have hcz14_1 : w12.cell? ⟨gb206, 1, none⟩ = some (.int .i64 0) := (blk_cell BK206.out 1).trans rfl; have hcz14_2 : w12.cell? ⟨gb206, 2, none⟩ = some (.int .i64 0) := (blk_cell BK206.out 2).trans rfl; have hcz14_3 : w12.cell? ⟨gb206, 3, none⟩ = some (.int .i64 0) := (blk_cell BK206.out 3).trans rfl; have hcz14_4 : w12.cell? ⟨gb206, 4, none⟩ = some (.int .i64 0) := (blk_cell BK206.out 4).trans rfl; have hfz14_0 := blk_frozen BK206.out 0; have hfz14_1 := blk_frozen BK206.out 1; have hfz14_2 := blk_frozen BK206.out 2; have hfz14_3 := blk_frozen BK206.out 3; have hfz14_4 := blk_frozen BK206.out 4))
  (try simp only [Act.put, List.setIfInBounds_toArray, List.set_cons_zero, List.set_cons_succ])
  go_cut [28] (fun v28 wc => ∃ (kq : Nat) (x28_5 : Bool), v28 = .bool x28_5 ∧ Aside0 (caponierlaw02_InsDecodes.j0 kq a0 t198 x28_5 t193 t194 t195 t196 t197 = some r) ∧ Aside0 (kq ≤ k) ∧ Aside0 (wc.heap[gb199]? = some (.cells #[.int .i64 t193, .int .i64 t194, .int .i64 t195, .int .i64 t196, .int .i64 t197] 23 (0, 0))) ∧ Aside0 (wc.heap[gb206]? = some (.cells #[.int .i64 t200, .int .i64 t201, .int .i64 t202, .int .i64 t203, .int .i64 t204] 23 (0, 0))) ∧ Aside0 (Below w.heap.size w wc))
  case first =>
   have H := HC6.out
   clear HC6
   by_cases c15 : (!(t193 == t200) || (!(t194 == t201) || (!(t195 == t202) || (!(t196 == t203) || (!(t197 == t204)))))) = true
   ·rw [if_pos c15] at H
    have c15b0 : (!(t193 == t200) || (!(t194 == t201) || (!(t195 == t202) || (!(t196 == t203) || (!(t197 == t204)))))) = true := c15
    clear c15
    (first | rw [c15b0] | (simp only [i64_w, i32_w]; rw [c15b0]) | skip)
    have H' := Aside0.mk H
    clear H
    have hnb16 := NB199_206.out
    have hnc16 := NB206_199.out
    have hcz17_0 : w12.cell? ⟨gb199, 0, none⟩ = some (.int .i64 t193) := (blk_cell BK199.out 0).trans rfl
    have hcz17_1 : w12.cell? ⟨gb199, 1, none⟩ = some (.int .i64 t194) := (blk_cell BK199.out 1).trans rfl
    have hcz17_2 : w12.cell? ⟨gb199, 2, none⟩ = some (.int .i64 t195) := (blk_cell BK199.out 2).trans rfl
    have hcz17_3 : w12.cell? ⟨gb199, 3, none⟩ = some (.int .i64 t196) := (blk_cell BK199.out 3).trans rfl
    have hcz17_4 : w12.cell? ⟨gb199, 4, none⟩ = some (.int .i64 t197) := (blk_cell BK199.out 4).trans rfl
    have hfz17_0 := blk_frozen BK199.out 0
    have hfz17_1 := blk_frozen BK199.out 1
    have hfz17_2 := blk_frozen BK199.out 2
    have hfz17_3 := blk_frozen BK199.out 3
    have hfz17_4 := blk_frozen BK199.out 4
    have hcz18_0 : w12.cell? ⟨gb206, 0, none⟩ = some (.int .i64 0) := (blk_cell BK206.out 0).trans rfl
    have hcz18_1 : w12.cell? ⟨gb206, 1, none⟩ = some (.int .i64 0) := (blk_cell BK206.out 1).trans rfl
    have hcz18_2 : w12.cell? ⟨gb206, 2, none⟩ = some (.int .i64 0) := (blk_cell BK206.out 2).trans rfl
    have hcz18_3 : w12.cell? ⟨gb206, 3, none⟩ = some (.int .i64 0) := (blk_cell BK206.out 3).trans rfl
    have hcz18_4 : w12.cell? ⟨gb206, 4, none⟩ = some (.int .i64 0) := (blk_cell BK206.out 4).trans rfl
    have hfz18_0 := blk_frozen BK206.out 0
    have hfz18_1 := blk_frozen BK206.out 1
    have hfz18_2 := blk_frozen BK206.out 2
    have hfz18_3 := blk_frozen BK206.out 3
    have hfz18_4 := blk_frozen BK206.out 4
    go_wp2
    go_meet
    case rel => exact ⟨_, (true), (by first | rfl | (simp; done) | (simp [*]; done)), H', ⟨by first | omega | exact Nat.le_refl _⟩, ⟨by (with_reducible repeat (first | refine blk_drewN ?_ _ | refine blk_drew ?_ | refine blk_alloc ?_ _)); refine blk_far ?_ NB199_206.out _; (with_reducible repeat (first | refine blk_drewN ?_ _ | refine blk_drew ?_ | refine blk_alloc ?_ _)); refine blk_far ?_ NB199_206.out _; (with_reducible repeat (first | refine blk_drewN ?_ _ | refine blk_drew ?_ | refine blk_alloc ?_ _)); refine blk_far ?_ NB199_206.out _; (with_reducible repeat (first | refine blk_drewN ?_ _ | refine blk_drew ?_ | refine blk_alloc ?_ _)); refine blk_far ?_ NB199_206.out _; (with_reducible repeat (first | refine blk_drewN ?_ _ | refine blk_drew ?_ | refine blk_alloc ?_ _)); refine blk_far ?_ NB199_206.out _; (with_reducible repeat (first | refine blk_drewN ?_ _ | refine blk_drew ?_ | refine blk_alloc ?_ _)); exact BK199.out⟩, ⟨by (with_reducible repeat (first | refine blk_drewN ?_ _ | refine blk_drew ?_ | refine blk_alloc ?_ _)); refine blk_put (cs := #[.int .i64 t200, .int .i64 t201, .int .i64 t202, .int .i64 t203, .int .i64 0]) ?_ 4 _ rfl; (with_reducible repeat (first | refine blk_drewN ?_ _ | refine blk_drew ?_ | refine blk_alloc ?_ _)); refine blk_put (cs := #[.int .i64 t200, .int .i64 t201, .int .i64 t202, .int .i64 0, .int .i64 0]) ?_ 3 _ rfl; (with_reducible repeat (first | refine blk_drewN ?_ _ | refine blk_drew ?_ | refine blk_alloc ?_ _)); refine blk_put (cs := #[.int .i64 t200, .int .i64 t201, .int .i64 0, .int .i64 0, .int .i64 0]) ?_ 2 _ rfl; (with_reducible repeat (first | refine blk_drewN ?_ _ | refine blk_drew ?_ | refine blk_alloc ?_ _)); refine blk_put (cs := #[.int .i64 t200, .int .i64 0, .int .i64 0, .int .i64 0, .int .i64 0]) ?_ 1 _ rfl; (with_reducible repeat (first | refine blk_drewN ?_ _ | refine blk_drew ?_ | refine blk_alloc ?_ _)); refine blk_put (cs := #[.int .i64 0, .int .i64 0, .int .i64 0, .int .i64 0, .int .i64 0]) ?_ 0 _ rfl; (with_reducible repeat (first | refine blk_drewN ?_ _ | refine blk_drew ?_ | refine blk_alloc ?_ _)); exact BK206.out⟩, ⟨by repeat (first | (with_reducible first | exact HB.out | apply below_alloc | apply pw_below_drewN | apply below_drew1 | refine below_set ?_ GE199.out | refine below_set ?_ GE206.out) | exact HB.out)⟩⟩
   ·rw [if_neg c15] at H
    have c15b0 : (!(t193 == t200) || (!(t194 == t201) || (!(t195 == t202) || (!(t196 == t203) || (!(t197 == t204)))))) = false := by simpa using c15
    clear c15
    (first | rw [c15b0] | (simp only [i64_w, i32_w]; rw [c15b0]) | skip)
    have H' := Aside0.mk H
    clear H
    have hnb19 := NB199_206.out
    have hnc19 := NB206_199.out
    have hcz20_0 : w12.cell? ⟨gb199, 0, none⟩ = some (.int .i64 t193) := (blk_cell BK199.out 0).trans rfl
    have hcz20_1 : w12.cell? ⟨gb199, 1, none⟩ = some (.int .i64 t194) := (blk_cell BK199.out 1).trans rfl
    have hcz20_2 : w12.cell? ⟨gb199, 2, none⟩ = some (.int .i64 t195) := (blk_cell BK199.out 2).trans rfl
    have hcz20_3 : w12.cell? ⟨gb199, 3, none⟩ = some (.int .i64 t196) := (blk_cell BK199.out 3).trans rfl
    have hcz20_4 : w12.cell? ⟨gb199, 4, none⟩ = some (.int .i64 t197) := (blk_cell BK199.out 4).trans rfl
    have hfz20_0 := blk_frozen BK199.out 0
    have hfz20_1 := blk_frozen BK199.out 1
    have hfz20_2 := blk_frozen BK199.out 2
    have hfz20_3 := blk_frozen BK199.out 3
    have hfz20_4 := blk_frozen BK199.out 4
    have hcz21_0 : w12.cell? ⟨gb206, 0, none⟩ = some (.int .i64 0) := (blk_cell BK206.out 0).trans rfl
    have hcz21_1 : w12.cell? ⟨gb206, 1, none⟩ = some (.int .i64 0) := (blk_cell BK206.out 1).trans rfl
    have hcz21_2 : w12.cell? ⟨gb206, 2, none⟩ = some (.int .i64 0) := (blk_cell BK206.out 2).trans rfl
    have hcz21_3 : w12.cell? ⟨gb206, 3, none⟩ = some (.int .i64 0) := (blk_cell BK206.out 3).trans rfl
    have hcz21_4 : w12.cell? ⟨gb206, 4, none⟩ = some (.int .i64 0) := (blk_cell BK206.out 4).trans rfl
    have hfz21_0 := blk_frozen BK206.out 0
    have hfz21_1 := blk_frozen BK206.out 1
    have hfz21_2 := blk_frozen BK206.out 2
    have hfz21_3 := blk_frozen BK206.out 3
    have hfz21_4 := blk_frozen BK206.out 4
    go_wp2
    go_meet
    case rel => exact ⟨_, ((t198 != t205)), (by first | rfl | (simp; done) | (simp [*]; done)), H', ⟨by first | omega | exact Nat.le_refl _⟩, ⟨by (with_reducible repeat (first | refine blk_drewN ?_ _ | refine blk_drew ?_ | refine blk_alloc ?_ _)); refine blk_far ?_ NB199_206.out _; (with_reducible repeat (first | refine blk_drewN ?_ _ | refine blk_drew ?_ | refine blk_alloc ?_ _)); refine blk_far ?_ NB199_206.out _; (with_reducible repeat (first | refine blk_drewN ?_ _ | refine blk_drew ?_ | refine blk_alloc ?_ _)); refine blk_far ?_ NB199_206.out _; (with_reducible repeat (first | refine blk_drewN ?_ _ | refine blk_drew ?_ | refine blk_alloc ?_ _)); refine blk_far ?_ NB199_206.out _; (with_reducible repeat (first | refine blk_drewN ?_ _ | refine blk_drew ?_ | refine blk_alloc ?_ _)); refine blk_far ?_ NB199_206.out _; (with_reducible repeat (first | refine blk_drewN ?_ _ | refine blk_drew ?_ | refine blk_alloc ?_ _)); exact BK199.out⟩, ⟨by (with_reducible repeat (first | refine blk_drewN ?_ _ | refine blk_drew ?_ | refine blk_alloc ?_ _)); refine blk_put (cs := #[.int .i64 t200, .int .i64 t201, .int .i64 t202, .int .i64 t203, .int .i64 0]) ?_ 4 _ rfl; (with_reducible repeat (first | refine blk_drewN ?_ _ | refine blk_drew ?_ | refine blk_alloc ?_ _)); refine blk_put (cs := #[.int .i64 t200, .int .i64 t201, .int .i64 t202, .int .i64 0, .int .i64 0]) ?_ 3 _ rfl; (with_reducible repeat (first | refine blk_drewN ?_ _ | refine blk_drew ?_ | refine blk_alloc ?_ _)); refine blk_put (cs := #[.int .i64 t200, .int .i64 t201, .int .i64 0, .int .i64 0, .int .i64 0]) ?_ 2 _ rfl; (with_reducible repeat (first | refine blk_drewN ?_ _ | refine blk_drew ?_ | refine blk_alloc ?_ _)); refine blk_put (cs := #[.int .i64 t200, .int .i64 0, .int .i64 0, .int .i64 0, .int .i64 0]) ?_ 1 _ rfl; (with_reducible repeat (first | refine blk_drewN ?_ _ | refine blk_drew ?_ | refine blk_alloc ?_ _)); refine blk_put (cs := #[.int .i64 0, .int .i64 0, .int .i64 0, .int .i64 0, .int .i64 0]) ?_ 0 _ rfl; (with_reducible repeat (first | refine blk_drewN ?_ _ | refine blk_drew ?_ | refine blk_alloc ?_ _)); exact BK206.out⟩, ⟨by repeat (first | (with_reducible first | exact HB.out | apply below_alloc | apply pw_below_drewN | apply below_drew1 | refine below_set ?_ GE199.out | refine below_set ?_ GE206.out) | exact HB.out)⟩⟩
  case rest =>
   clear HC6
   try clear c1
   try clear p2
   try clear c3
   try clear c4
   try clear c9
   try clear c13
   try clear c15
   try clear c15b0
   try clear c16
   try clear c17
   try clear c19
   try clear hcz10_0
   try clear hcz10_1
   try clear hcz10_2
   try clear hcz10_3
   try clear hcz10_4
   try clear hcz14_0
   try clear hcz14_1
   try clear hcz14_2
   try clear hcz14_3
   try clear hcz14_4
   try clear hcz17_0
   try clear hcz17_1
   try clear hcz17_2
   try clear hcz17_3
   try clear hcz17_4
   try clear hcz18_0
   try clear hcz18_1
   try clear hcz18_2
   try clear hcz18_3
   try clear hcz18_4
   try clear hcz20_0
   try clear hcz20_1
   try clear hcz20_2
   try clear hcz20_3
   try clear hcz20_4
   try clear hcz21_0
   try clear hcz21_1
   try clear hcz21_2
   try clear hcz21_3
   try clear hcz21_4
   try clear hfz10_0
   try clear hfz10_1
   try clear hfz10_2
   try clear hfz10_3
   try clear hfz10_4
   try clear hfz14_0
   try clear hfz14_1
   try clear hfz14_2
   try clear hfz14_3
   try clear hfz14_4
   try clear hfz17_0
   try clear hfz17_1
   try clear hfz17_2
   try clear hfz17_3
   try clear hfz17_4
   try clear hfz18_0
   try clear hfz18_1
   try clear hfz18_2
   try clear hfz18_3
   try clear hfz18_4
   try clear hfz20_0
   try clear hfz20_1
   try clear hfz20_2
   try clear hfz20_3
   try clear hfz20_4
   try clear hfz21_0
   try clear hfz21_1
   try clear hfz21_2
   try clear hfz21_3
   try clear hfz21_4
   obtain ⟨kq, x28_5, rfl, HA, HJ5, BK199, BK206, HB⟩ := hcut
   cases kq with
   | zero => exact absurd HA.out (by simp [caponierlaw02_InsDecodes.j0])
   | succ kj5 =>
    have H := HA.out
    clear HA
    simp only [caponierlaw02_InsDecodes.j0] at H
    by_cases c22 : x28_5 = true
    ·subst c22
     have H1 : (some false) = some r := by rw [if_pos rfl] at H; exact H
     clear H
     have H := H1
     clear H1
     obtain rfl := Option.some.inj H
     go_wp2
     go_ret
     exact ⟨by first | rfl | (simp [errW_none, errW_some] <;> rfl) | (simp [*, errW_none, errW_some] <;> rfl), by repeat (first | (with_reducible first | exact HB.out | apply below_alloc | apply pw_below_drewN | apply below_drew1 | refine below_set ?_ GE199.out | refine below_set ?_ GE206.out) | exact HB.out)⟩
    ·replace c22 := Bool.eq_false_iff.mpr c22
     subst c22
     have H1 : (if t198 = 0 then ((ins_Encode.f t193 t194 t195 t196 t197).bind fun bt207 => (if bt207.2 = 0 then (if bt207.1 = a0 then ((ins_May.f t193 t194 t195 t196 t197).bind fun t209 => (some t209)) else (some false)) else (some false))) else (some (t193 == 0 && (t194 == 0 && (t195 == 0 && (t196 == 0 && (t197 == 0))))))) = some r := by rw [if_neg (show ¬ (false = true) by decide)] at H; exact H
     clear H
     have H := H1
     clear H1
     by_cases c23 : t198 = 0
     ·rw [if_pos c23] at H
      have c23b0 : (t198 == 0) = true := beq_iff_eq.mpr c23
      have c23b1 : (t198 != 0) = false := bne_eq_false_iff_eq.mpr c23
      clear c23
      replace H := Option.bind_eq_some_iff.mp H
      obtain ⟨⟨t207, t208⟩, A240, H⟩ := H
      replace H : (if t208 = 0 then (if t207 = a0 then ((ins_May.f t193 t194 t195 t196 t197).bind fun t209 => (some t209)) else (some false)) else (some false)) = some r := H
      have A24 := Aside0.mk A240
      clear A240
      by_cases c25 : t208 = 0
      ·rw [if_pos c25] at H
       have c25b0 : (t208 == 0) = true := beq_iff_eq.mpr c25
       have c25b1 : (t208 != 0) = false := bne_eq_false_iff_eq.mpr c25
       clear c25
       by_cases c26 : t207 = a0
       ·rw [if_pos c26] at H
        have c26b0 : (t207 == a0) = true := beq_iff_eq.mpr c26
        have c26b1 : (t207 != a0) = false := bne_eq_false_iff_eq.mpr c26
        clear c26
        replace H := Option.bind_eq_some_iff.mp H
        obtain ⟨t209, A270, H⟩ := H
        replace H : (some t209) = some r := H
        have A27 := Aside0.mk A270
        clear A270
        obtain rfl := Option.some.inj H
        have hnb28 := NB199_206.out
        have hnc28 := NB206_199.out
        have hcz29_0 : wc.cell? ⟨gb199, 0, none⟩ = some (.int .i64 t193) := (blk_cell BK199.out 0).trans rfl
        have hcz29_1 : wc.cell? ⟨gb199, 1, none⟩ = some (.int .i64 t194) := (blk_cell BK199.out 1).trans rfl
        have hcz29_2 : wc.cell? ⟨gb199, 2, none⟩ = some (.int .i64 t195) := (blk_cell BK199.out 2).trans rfl
        have hcz29_3 : wc.cell? ⟨gb199, 3, none⟩ = some (.int .i64 t196) := (blk_cell BK199.out 3).trans rfl
        have hcz29_4 : wc.cell? ⟨gb199, 4, none⟩ = some (.int .i64 t197) := (blk_cell BK199.out 4).trans rfl
        have hfz29_0 := blk_frozen BK199.out 0
        have hfz29_1 := blk_frozen BK199.out 1
        have hfz29_2 := blk_frozen BK199.out 2
        have hfz29_3 := blk_frozen BK199.out 3
        have hfz29_4 := blk_frozen BK199.out 4
        go_wp2_with (first | ((with_reducible refine gate_callee (f := 10) rfl ?_); refine goesL_ (some 36) rfl rfl Tryd.func10 (by kernel_rfl) rfl #[.agg #[.int .i64 t193, .int .i64 t194, .int .i64 t195, .int .i64 t196, .int .i64 t197]] rfl (by (try simp only [List.map_toArray, List.map_cons, List.map_nil]); first | done | rfl | (simp only [List.length_drop, List.length_take]; rfl)) ?_; (with_reducible refine (ins_Encode.calls t193 t194 t195 t196 t197 t207 t208 _ A24.out (by first | exact L | exact L.below (by repeat (first | (with_reducible first | exact HB.out | apply below_alloc | apply pw_below_drewN | apply below_drew1 | refine below_set ?_ GE199.out | refine below_set ?_ GE206.out) | exact HB.out)))).mono ?_); rintro e w30 ⟨rfl, hb⟩; refine ⟨_, rfl, ?_⟩; have n0_ := Aside0.mk (blk_below (g := gb199) (o := .cells #[.int .i64 t193, .int .i64 t194, .int .i64 t195, .int .i64 t196, .int .i64 t197] 23 (0, 0)) (by (with_reducible repeat (first | refine blk_drewN ?_ _ | refine blk_drew ?_ | refine blk_alloc ?_ _)); exact BK199.out) hb); have n1_ := Aside0.mk (blk_below (g := gb206) (o := .cells #[.int .i64 t200, .int .i64 t201, .int .i64 t202, .int .i64 t203, .int .i64 t204] 23 (0, 0)) (by (with_reducible repeat (first | refine blk_drewN ?_ _ | refine blk_drew ?_ | refine blk_alloc ?_ _)); exact BK206.out) hb); have n2_ := Aside0.mk (below_step (by repeat (first | (with_reducible first | exact HB.out | apply below_alloc | apply pw_below_drewN | apply below_drew1 | refine below_set ?_ GE199.out | refine below_set ?_ GE206.out) | exact HB.out)) hb); clear BK199; clear BK206; clear HB; have BK199 := n0_; have BK206 := n1_; have HB := n2_; clear n0_ n1_ n2_; (try clear hb); (try clear hb2); (try clear hk); (try clear hi); have hcz31_0 : w30.cell? ⟨gb199, 0, none⟩ = some (.int .i64 t193) := (blk_cell BK199.out 0).trans rfl; have hcz31_1 : w30.cell? ⟨gb199, 1, none⟩ = some (.int .i64 t194) := (blk_cell BK199.out 1).trans rfl; have hcz31_2 : w30.cell? ⟨gb199, 2, none⟩ = some (.int .i64 t195) := (blk_cell BK199.out 2).trans rfl; have hcz31_3 : w30.cell? ⟨gb199, 3, none⟩ = some (.int .i64 t196) := (blk_cell BK199.out 3).trans rfl; have hcz31_4 : w30.cell? ⟨gb199, 4, none⟩ = some (.int .i64 t197) := (blk_cell BK199.out 4).trans rfl; have hfz31_0 := blk_frozen BK199.out 0; have hfz31_1 := blk_frozen BK199.out 1; have hfz31_2 := blk_frozen BK199.out 2; have hfz31_3 := blk_frozen BK199.out 3; have hfz31_4 := blk_frozen BK199.out 4) | (go_at_call 12; (with_reducible refine (ins_May.calls t193 t194 t195 t196 t197 t209 _ A27.out (by first | exact L | exact L.below (by repeat (first | (with_reducible first | exact HB.out | apply below_alloc | apply pw_below_drewN | apply below_drew1 | refine below_set ?_ GE199.out | refine below_set ?_ GE206.out) | exact HB.out)))).mono ?_); rintro e w32 ⟨rfl, hb⟩; have n0_ := Aside0.mk (blk_below (g := gb199) (o := .cells #[.int .i64 t193, .int .i64 t194, .int .i64 t195, .int .i64 t196, .int .i64 t197] 23 (0, 0)) (by (with_reducible repeat (first | refine blk_drewN ?_ _ | refine blk_drew ?_ | refine blk_alloc ?_ _)); exact BK199.out) hb); have n1_ := Aside0.mk (blk_below (g := gb206) (o := .cells #[.int .i64 t200, .int .i64 t201, .int .i64 t202, .int .i64 t203, .int .i64 t204] 23 (0, 0)) (by (with_reducible repeat (first | refine blk_drewN ?_ _ | refine blk_drew ?_ | refine blk_alloc ?_ _)); exact BK206.out) hb); have n2_ := Aside0.mk (below_step (by repeat (first | (with_reducible first | exact HB.out | apply below_alloc | apply pw_below_drewN | apply below_drew1 | refine below_set ?_ GE199.out | refine below_set ?_ GE206.out) | exact HB.out)) hb); clear BK199; clear BK206; clear HB; have BK199 := n0_; have BK206 := n1_; have HB := n2_; clear n0_ n1_ n2_; (try clear hb); (try clear hb2); (try clear hk); (try clear hi)))
        go_ret
        exact ⟨by first | rfl | (simp [errW_none, errW_some] <;> rfl) | (simp [*, errW_none, errW_some] <;> rfl), by repeat (first | (with_reducible first | exact HB.out | apply below_alloc | apply pw_below_drewN | apply below_drew1 | refine below_set ?_ GE199.out | refine below_set ?_ GE206.out) | exact HB.out)⟩
       ·rw [if_neg c26] at H
        have c26b0 : (t207 == a0) = false := beq_eq_false_iff_ne.mpr c26
        have c26b1 : (t207 != a0) = true := bne_iff_ne.mpr c26
        obtain rfl := Option.some.inj H
        have hnb33 := NB199_206.out
        have hnc33 := NB206_199.out
        have hcz34_0 : wc.cell? ⟨gb199, 0, none⟩ = some (.int .i64 t193) := (blk_cell BK199.out 0).trans rfl
        have hcz34_1 : wc.cell? ⟨gb199, 1, none⟩ = some (.int .i64 t194) := (blk_cell BK199.out 1).trans rfl
        have hcz34_2 : wc.cell? ⟨gb199, 2, none⟩ = some (.int .i64 t195) := (blk_cell BK199.out 2).trans rfl
        have hcz34_3 : wc.cell? ⟨gb199, 3, none⟩ = some (.int .i64 t196) := (blk_cell BK199.out 3).trans rfl
        have hcz34_4 : wc.cell? ⟨gb199, 4, none⟩ = some (.int .i64 t197) := (blk_cell BK199.out 4).trans rfl
        have hfz34_0 := blk_frozen BK199.out 0
        have hfz34_1 := blk_frozen BK199.out 1
        have hfz34_2 := blk_frozen BK199.out 2
        have hfz34_3 := blk_frozen BK199.out 3
        have hfz34_4 := blk_frozen BK199.out 4
        go_wp2_with (first | ((with_reducible refine gate_callee (f := 10) rfl ?_); refine goesL_ (some 36) rfl rfl Tryd.func10 (by kernel_rfl) rfl #[.agg #[.int .i64 t193, .int .i64 t194, .int .i64 t195, .int .i64 t196, .int .i64 t197]] rfl (by (try simp only [List.map_toArray, List.map_cons, List.map_nil]); first | done | rfl | (simp only [List.length_drop, List.length_take]; rfl)) ?_; (with_reducible refine (ins_Encode.calls t193 t194 t195 t196 t197 t207 t208 _ A24.out (by first | exact L | exact L.below (by repeat (first | (with_reducible first | exact HB.out | apply below_alloc | apply pw_below_drewN | apply below_drew1 | refine below_set ?_ GE199.out | refine below_set ?_ GE206.out) | exact HB.out)))).mono ?_); rintro e w35 ⟨rfl, hb⟩; refine ⟨_, rfl, ?_⟩; have n0_ := Aside0.mk (blk_below (g := gb199) (o := .cells #[.int .i64 t193, .int .i64 t194, .int .i64 t195, .int .i64 t196, .int .i64 t197] 23 (0, 0)) (by (with_reducible repeat (first | refine blk_drewN ?_ _ | refine blk_drew ?_ | refine blk_alloc ?_ _)); exact BK199.out) hb); have n1_ := Aside0.mk (blk_below (g := gb206) (o := .cells #[.int .i64 t200, .int .i64 t201, .int .i64 t202, .int .i64 t203, .int .i64 t204] 23 (0, 0)) (by (with_reducible repeat (first | refine blk_drewN ?_ _ | refine blk_drew ?_ | refine blk_alloc ?_ _)); exact BK206.out) hb); have n2_ := Aside0.mk (below_step (by repeat (first | (with_reducible first | exact HB.out | apply below_alloc | apply pw_below_drewN | apply below_drew1 | refine below_set ?_ GE199.out | refine below_set ?_ GE206.out) | exact HB.out)) hb); clear BK199; clear BK206; clear HB; have BK199 := n0_; have BK206 := n1_; have HB := n2_; clear n0_ n1_ n2_; (try clear hb); (try clear hb2); (try clear hk); (try clear hi)))
        go_ret
        exact ⟨by first | rfl | (simp [errW_none, errW_some] <;> rfl) | (simp [*, errW_none, errW_some] <;> rfl), by repeat (first | (with_reducible first | exact HB.out | apply below_alloc | apply pw_below_drewN | apply below_drew1 | refine below_set ?_ GE199.out | refine below_set ?_ GE206.out) | exact HB.out)⟩
      ·rw [if_neg c25] at H
       have c25b0 : (t208 == 0) = false := beq_eq_false_iff_ne.mpr c25
       have c25b1 : (t208 != 0) = true := bne_iff_ne.mpr c25
       obtain rfl := Option.some.inj H
       have hnb36 := NB199_206.out
       have hnc36 := NB206_199.out
       have hcz37_0 : wc.cell? ⟨gb199, 0, none⟩ = some (.int .i64 t193) := (blk_cell BK199.out 0).trans rfl
       have hcz37_1 : wc.cell? ⟨gb199, 1, none⟩ = some (.int .i64 t194) := (blk_cell BK199.out 1).trans rfl
       have hcz37_2 : wc.cell? ⟨gb199, 2, none⟩ = some (.int .i64 t195) := (blk_cell BK199.out 2).trans rfl
       have hcz37_3 : wc.cell? ⟨gb199, 3, none⟩ = some (.int .i64 t196) := (blk_cell BK199.out 3).trans rfl
       have hcz37_4 : wc.cell? ⟨gb199, 4, none⟩ = some (.int .i64 t197) := (blk_cell BK199.out 4).trans rfl
       have hfz37_0 := blk_frozen BK199.out 0
       have hfz37_1 := blk_frozen BK199.out 1
       have hfz37_2 := blk_frozen BK199.out 2
       have hfz37_3 := blk_frozen BK199.out 3
       have hfz37_4 := blk_frozen BK199.out 4
       go_wp2_with (first | ((with_reducible refine gate_callee (f := 10) rfl ?_); refine goesL_ (some 36) rfl rfl Tryd.func10 (by kernel_rfl) rfl #[.agg #[.int .i64 t193, .int .i64 t194, .int .i64 t195, .int .i64 t196, .int .i64 t197]] rfl (by (try simp only [List.map_toArray, List.map_cons, List.map_nil]); first | done | rfl | (simp only [List.length_drop, List.length_take]; rfl)) ?_; (with_reducible refine (ins_Encode.calls t193 t194 t195 t196 t197 t207 t208 _ A24.out (by first | exact L | exact L.below (by repeat (first | (with_reducible first | exact HB.out | apply below_alloc | apply pw_below_drewN | apply below_drew1 | refine below_set ?_ GE199.out | refine below_set ?_ GE206.out) | exact HB.out)))).mono ?_); rintro e w38 ⟨rfl, hb⟩; refine ⟨_, rfl, ?_⟩; have n0_ := Aside0.mk (blk_below (g := gb199) (o := .cells #[.int .i64 t193, .int .i64 t194, .int .i64 t195, .int .i64 t196, .int .i64 t197] 23 (0, 0)) (by (with_reducible repeat (first | refine blk_drewN ?_ _ | refine blk_drew ?_ | refine blk_alloc ?_ _)); exact BK199.out) hb); have n1_ := Aside0.mk (blk_below (g := gb206) (o := .cells #[.int .i64 t200, .int .i64 t201, .int .i64 t202, .int .i64 t203, .int .i64 t204] 23 (0, 0)) (by (with_reducible repeat (first | refine blk_drewN ?_ _ | refine blk_drew ?_ | refine blk_alloc ?_ _)); exact BK206.out) hb); have n2_ := Aside0.mk (below_step (by repeat (first | (with_reducible first | exact HB.out | apply below_alloc | apply pw_below_drewN | apply below_drew1 | refine below_set ?_ GE199.out | refine below_set ?_ GE206.out) | exact HB.out)) hb); clear BK199; clear BK206; clear HB; have BK199 := n0_; have BK206 := n1_; have HB := n2_; clear n0_ n1_ n2_; (try clear hb); (try clear hb2); (try clear hk); (try clear hi)))
       go_ret
       exact ⟨by first | rfl | (simp [errW_none, errW_some] <;> rfl) | (simp [*, errW_none, errW_some] <;> rfl), by repeat (first | (with_reducible first | exact HB.out | apply below_alloc | apply pw_below_drewN | apply below_drew1 | refine below_set ?_ GE199.out | refine below_set ?_ GE206.out) | exact HB.out)⟩
     ·rw [if_neg c23] at H
      have c23b0 : (t198 == 0) = false := beq_eq_false_iff_ne.mpr c23
      have c23b1 : (t198 != 0) = true := bne_iff_ne.mpr c23
      obtain rfl := Option.some.inj H
      have hnb39 := NB199_206.out
      have hnc39 := NB206_199.out
      have hcz40_0 : wc.cell? ⟨gb199, 0, none⟩ = some (.int .i64 t193) := (blk_cell BK199.out 0).trans rfl
      have hcz40_1 : wc.cell? ⟨gb199, 1, none⟩ = some (.int .i64 t194) := (blk_cell BK199.out 1).trans rfl
      have hcz40_2 : wc.cell? ⟨gb199, 2, none⟩ = some (.int .i64 t195) := (blk_cell BK199.out 2).trans rfl
      have hcz40_3 : wc.cell? ⟨gb199, 3, none⟩ = some (.int .i64 t196) := (blk_cell BK199.out 3).trans rfl
      have hcz40_4 : wc.cell? ⟨gb199, 4, none⟩ = some (.int .i64 t197) := (blk_cell BK199.out 4).trans rfl
      have hfz40_0 := blk_frozen BK199.out 0
      have hfz40_1 := blk_frozen BK199.out 1
      have hfz40_2 := blk_frozen BK199.out 2
      have hfz40_3 := blk_frozen BK199.out 3
      have hfz40_4 := blk_frozen BK199.out 4
      go_wp2
      go_ret
      exact ⟨by first | rfl | (simp [errW_none, errW_some] <;> rfl) | (simp [*, errW_none, errW_some] <;> rfl), by repeat (first | (with_reducible first | exact HB.out | apply below_alloc | apply pw_below_drewN | apply below_drew1 | refine below_set ?_ GE199.out | refine below_set ?_ GE206.out) | exact HB.out)⟩
 ·replace c3 := Bool.eq_false_iff.mpr c3
  subst c3
  have H1 : (some false) = some r := by rw [if_neg (show ¬ (false = true) by decide)] at H; exact H
  clear H
  have H := H1
  clear H1
  obtain rfl := Option.some.inj H
  go_enter Tryd.func4, Tryd.ntmps4
  go_wp2_with (first | ((with_reducible refine gate_callee (f := 9) rfl ?_); refine goesL_ (some 9) rfl rfl Tryd.func9 (by kernel_rfl) rfl #[] rfl (by (try simp only [List.map_toArray, List.map_cons, List.map_nil]); first | done | rfl | (simp only [List.length_drop, List.length_take]; rfl)) ?_; (with_reducible refine (caponierlaw02_awake.calls  false _ A2.out (by first | exact L | exact L.below (by repeat (first | (with_reducible first | exact HB.out | apply below_alloc | apply pw_below_drewN | apply below_drew1 | refine below_set ?_ GE199.out | refine below_set ?_ GE206.out) | exact HB.out)))).mono ?_); rintro e w41 ⟨rfl, hb⟩; refine ⟨_, rfl, ?_⟩; have n0_ := Aside0.mk (below_step (by repeat (first | (with_reducible first | exact HB.out | apply below_alloc | apply pw_below_drewN | apply below_drew1) | exact HB.out)) hb); clear HB; have HB := n0_; clear n0_; (try clear hb); (try clear hb2); (try clear hk); (try clear hi)))
  go_ret
  exact ⟨by first | rfl | (simp [errW_none, errW_some] <;> rfl) | (simp [*, errW_none, errW_some] <;> rfl), by repeat (first | (with_reducible first | exact HB.out | apply below_alloc | apply pw_below_drewN | apply below_drew1) | exact HB.out)⟩

/-- THE ONE PURE STATEMENT of caponierlaw02_InsDecodes: yours. -/
def caponierlaw02_InsDecodes.Pure : Prop := ∀ (a0 : Int), (Lit.int .u32 a0).wf = true → ∃ k, caponierlaw02_InsDecodes.f k a0 = some true
theorem caponierlaw02_InsDecodes.walk (P : caponierlaw02_InsDecodes.Pure) (a0 : Int) (w : World) (w0 : (Lit.int .u32 a0).wf = true) (L : Go.Proofs.YtbdlhhajblhmiaaDoor.Ins.Laid w) :
  Calls Tryd.prog 4 #[.int .u32 a0] w fun e w' => e = .returned (.bool true) ∧ Below w.heap.size w w' := by
 obtain ⟨k, h⟩ := P a0 w0
 refine (caponierlaw02_InsDecodes.calls k a0 true w h L).mono ?_
 rintro e w' ⟨rfl, hd⟩
 exact ⟨rfl, hd⟩

end Go.Proofs.YtbdlhhajblhmiaaDoor.QInsDecodes
