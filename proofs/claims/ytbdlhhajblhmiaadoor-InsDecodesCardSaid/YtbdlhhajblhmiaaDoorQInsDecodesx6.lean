-- Written by a program of this session (handprint.py) out of the translation: Go functions as Lean functions, and that the Go code comes to their answers; the row of the law.
import Derived.Test.YtbdlhhajblhmiaaDoorQInsDecodesx0
import Derived.Test.YtbdlhhajblhmiaaDoorQInsDecodesx4
namespace Go.Proofs.YtbdlhhajblhmiaaDoor.QInsDecodes
open Go.RowKit Go.Proofs.YtbdlhhajblhmiaaDoorW.PrintWords Go.Proofs.YtbdlhhajblhmiaaDoorW.PrintLast Go.Proofs.YtbdlhhajblhmiaaDoorW.PrintMore
attribute [local go_sem] max2_int min2_int max_two min_two max_three min_three max_four min_four   -- for this text's walks alone
set_option linter.unusedVariables false
set_option linter.unusedSimpArgs false

/-! ### caponierref01_Sign: function 43 -/
mutual
def caponierref01_Sign.j0 : Nat → Int → Int → Int → Bool → Option (Int)
 | 0, _, _, _, _ => none
 | k + 1, x0, x1, x5, x13 => if x13 = true then (some 0) else (caponierref01_Sign.l0 k x0 x1 x5 63)
def caponierref01_Sign.l0 : Nat → Int → Int → Int → Int → Option (Int)
 | 0, _, _, _, _ => none
 | k + 1, x0, x1, x5, x6 => if x6 ≥ 0 then ((caponierref01_Bit.f x0 (wrap64 (x1 - 1))).bind fun t156 => (if x6 < x1 then ((caponierref01_Bit.f x0 x6).bind fun t157 => (caponierref01_Sign.l0 k x0 x1 (IntKind.u64.wrap ((IntKind.u64.wrap (2 * x5)) + t157)) (wrap64 (x6 - 1)))) else (caponierref01_Sign.l0 k x0 x1 (IntKind.u64.wrap ((IntKind.u64.wrap (2 * x5)) + t156)) (wrap64 (x6 - 1))))) else (some (wrap64 (x5)))
end
def caponierref01_Sign.f (k : Nat) (a0 : Int) (a1 : Int) : Option (Int) := if a1 < 1 then (caponierref01_Sign.j0 k a0 a1 0 true) else (caponierref01_Sign.j0 k a0 a1 0 (decide (a1 > 64)))
theorem caponierref01_Sign.mono_l : ∀ k, (∀ y0 y1 y2 y3, LeO (caponierref01_Sign.j0 k y0 y1 y2 y3) (caponierref01_Sign.j0 (k + 1) y0 y1 y2 y3)) ∧ (∀ y0 y1 y2 y3, LeO (caponierref01_Sign.l0 k y0 y1 y2 y3) (caponierref01_Sign.l0 (k + 1) y0 y1 y2 y3))
 | 0 => ⟨fun _ _ _ _ r h => by simp [caponierref01_Sign.j0] at h, fun _ _ _ _ r h => by simp [caponierref01_Sign.l0] at h⟩
 | k + 1 => by
  obtain ⟨ih0, ih1⟩ := caponierref01_Sign.mono_l k
  refine ⟨?_, ?_⟩
  ·intro y0 y1 y2 y3
   unfold caponierref01_Sign.j0
   repeat' first
   | (with_reducible exact ih0 _ _ _ _)
   | (with_reducible exact ih1 _ _ _ _)
   | (with_reducible exact LeO.refl _)
   | (with_reducible exact LeO.none _)
   | (with_reducible refine LeO.ite ?_ ?_)
   | (with_reducible refine LeO.bind ?_ (fun _ => ?_))
   | exact ih0 _ _ _ _
   | exact ih1 _ _ _ _
   | exact LeO.none _
   | refine LeO.ite ?_ ?_
   | refine LeO.bind ?_ (fun _ => ?_)
  ·intro y0 y1 y2 y3
   unfold caponierref01_Sign.l0
   repeat' first
   | (with_reducible exact ih0 _ _ _ _)
   | (with_reducible exact ih1 _ _ _ _)
   | (with_reducible exact LeO.refl _)
   | (with_reducible exact LeO.none _)
   | (with_reducible refine LeO.ite ?_ ?_)
   | (with_reducible refine LeO.bind ?_ (fun _ => ?_))
   | exact ih0 _ _ _ _
   | exact ih1 _ _ _ _
   | exact LeO.none _
   | refine LeO.ite ?_ ?_
   | refine LeO.bind ?_ (fun _ => ?_)
theorem caponierref01_Sign.mono : ∀ a0 a1 k, LeO (caponierref01_Sign.f k a0 a1) (caponierref01_Sign.f (k + 1) a0 a1) := by
 intro a0 a1 k
 obtain ⟨ih0, ih1⟩ := caponierref01_Sign.mono_l k
 unfold caponierref01_Sign.f
 repeat' first
   | (with_reducible exact ih0 _ _ _ _)
   | (with_reducible exact ih1 _ _ _ _)
   | (with_reducible exact LeO.refl _)
   | (with_reducible exact LeO.none _)
   | (with_reducible refine LeO.ite ?_ ?_)
   | (with_reducible refine LeO.bind ?_ (fun _ => ?_))
   | exact ih0 _ _ _ _
   | exact ih1 _ _ _ _
   | exact LeO.none _
   | refine LeO.ite ?_ ?_
   | refine LeO.bind ?_ (fun _ => ?_)
set_option maxHeartbeats 8000000 in
set_option maxRecDepth 100000 in
theorem caponierref01_Sign.calls (k : Nat) (a0 : Int) (a1 : Int) (r : Int) (w : World) (h : caponierref01_Sign.f k a0 a1 = some r) :
  Calls Tryd.prog 43 #[.int .u64 a0, .int .i64 a1] w fun e w' => e = .returned (.int .i64 r) ∧ Drawn0 w w' := by
 have H : (if a1 < 1 then (caponierref01_Sign.j0 k a0 a1 0 true) else (caponierref01_Sign.j0 k a0 a1 0 (decide (a1 > 64)))) = some r := h
 clear h
 have HC3 := Aside0.mk H
 clear H
 go_enter Tryd.func43, Tryd.ntmps43
 go_upto_region 2 with (fail)
 go_cut [13] (fun v13 wc => ∃ (kq : Nat) (x13_2 : Bool), v13 = .bool x13_2 ∧ Aside0 (caponierref01_Sign.j0 kq a0 a1 0 x13_2 = some r) ∧ Aside0 (kq ≤ k) ∧ Drawn0 w wc)
 case first =>
  have H := HC3.out
  clear HC3
  by_cases c4 : a1 < 1
  ·rw [if_pos c4] at H
   have c4b0 : decide (a1 < 1) = true := decide_eq_true c4
   clear c4
   (first | rw [c4b0] | (simp only [i64_w, i32_w]; rw [c4b0]) | skip)
   have H' := Aside0.mk H
   clear H
   go_wp2
   go_meet
   case rel => exact ⟨_, (true), (by first | rfl | (simp; done) | (simp [*]; done)), H', ⟨by first | omega | exact Nat.le_refl _⟩, by repeat (first | exact Drawn0.refl _ | apply Drawn0.step)⟩
  ·rw [if_neg c4] at H
   have c4b0 : decide (a1 < 1) = false := decide_eq_false c4
   clear c4
   (first | rw [c4b0] | (simp only [i64_w, i32_w]; rw [c4b0]) | skip)
   have H' := Aside0.mk H
   clear H
   go_wp2
   go_meet
   case rel => exact ⟨_, (decide (a1 > 64)), (by first | rfl | (simp; done) | (simp [*]; done)), H', ⟨by first | omega | exact Nat.le_refl _⟩, by repeat (first | exact Drawn0.refl _ | apply Drawn0.step)⟩
 case rest =>
  clear HC3
  try clear p2
  try clear c4
  try clear c4b0
  obtain ⟨kq, x13_2, rfl, HA, HJ2, ⟨mc2, rfl⟩⟩ := hcut
  cases kq with
  | zero => exact absurd HA.out (by simp [caponierref01_Sign.j0])
  | succ kj2 =>
   have H := HA.out
   clear HA
   simp only [caponierref01_Sign.j0] at H
   by_cases c5 : x13_2 = true
   ·subst c5
    have H1 : (some 0) = some r := by rw [if_pos rfl] at H; exact H
    clear H
    have H := H1
    clear H1
    obtain rfl := Option.some.inj H
    go_wp2
    go_ret
    exact ⟨by first | rfl | (simp; done) | (simp [*]; done), by repeat (first | exact Drawn0.refl _ | apply Drawn0.step)⟩
   ·replace c5 := Bool.eq_false_iff.mpr c5
    subst c5
    have H1 : (caponierref01_Sign.l0 kj2 a0 a1 0 63) = some r := by rw [if_neg (show ¬ (false = true) by decide)] at H; exact H
    clear H
    have H := H1
    clear H1
    have H' := Aside0.mk H
    clear H
    go_wp2
    go_loopg [5, 6] kj2 (fun kq v5 v6 w' => ∃ (x5_2 : Int) (x6_2 : Int), v5 = .int .u64 x5_2 ∧ v6 = .int .i64 x6_2 ∧ Aside0 (caponierref01_Sign.l0 kq a0 a1 x5_2 x6_2 = some r) ∧ Aside0 (kq ≤ kj2) ∧ Drawn0 w w')
    case atStart => exact ⟨(0), (63), (by first | rfl | (simp; done) | (simp [*]; done)), (by first | rfl | (simp; done) | (simp [*]; done)), H', ⟨Nat.le_refl _⟩, by repeat (first | exact Drawn0.refl _ | apply Drawn0.step)⟩
    case round =>
     clear H'
     try clear c2
     try clear p2
     try clear c4
     try clear c4b0
     try clear c5
     try clear p2
     obtain ⟨x5_2, x6_2, rfl, rfl, HA, HK2, ⟨m2, rfl⟩⟩ := hrel
     cases gk with
     | zero => exact absurd HA.out (by simp [caponierref01_Sign.l0])
     | succ k2 =>
      have H := HA.out
      clear HA
      simp only [caponierref01_Sign.l0] at H
      by_cases c6 : x6_2 ≥ 0
      ·rw [if_pos c6] at H
       have c6b0 : decide (0 ≤ x6_2) = true := decide_eq_true c6
       clear c6
       replace H := Option.bind_eq_some_iff.mp H
       obtain ⟨t156, A70, H⟩ := H
       replace H : (if x6_2 < a1 then ((caponierref01_Bit.f a0 x6_2).bind fun t157 => (caponierref01_Sign.l0 k2 a0 a1 (IntKind.u64.wrap ((IntKind.u64.wrap (2 * x5_2)) + t157)) (wrap64 (x6_2 - 1)))) else (caponierref01_Sign.l0 k2 a0 a1 (IntKind.u64.wrap ((IntKind.u64.wrap (2 * x5_2)) + t156)) (wrap64 (x6_2 - 1)))) = some r := H
       have A7 := Aside0.mk A70
       clear A70
       by_cases c8 : x6_2 < a1
       ·rw [if_pos c8] at H
        have c8b0 : decide (x6_2 < a1) = true := decide_eq_true c8
        clear c8
        replace H := Option.bind_eq_some_iff.mp H
        obtain ⟨t157, A90, H⟩ := H
        replace H : (caponierref01_Sign.l0 k2 a0 a1 (IntKind.u64.wrap ((IntKind.u64.wrap (2 * x5_2)) + t157)) (wrap64 (x6_2 - 1))) = some r := H
        have A9 := Aside0.mk A90
        clear A90
        have H' := Aside0.mk H
        clear H
        go_wp2_with (first | ((with_reducible refine gate_callee (f := 45) rfl ?_); refine goesL_ (some 21) rfl rfl Tryd.func45 (by kernel_rfl) rfl #[.int .u64 a0, .int .i64 (wrap64 (a1 - 1))] rfl (by (try simp only [List.map_toArray, List.map_cons, List.map_nil]); first | done | rfl | (simp only [List.length_drop, List.length_take]; rfl)) ?_; (with_reducible refine (caponierref01_Bit.calls a0 (wrap64 (a1 - 1)) t156 _ A7.out).mono ?_); rintro e w' ⟨rfl, ⟨nd, rfl⟩⟩; refine ⟨_, rfl, ?_⟩) | ((with_reducible refine gate_callee (f := 45) rfl ?_); refine goesL_ (some 27) rfl rfl Tryd.func45 (by kernel_rfl) rfl #[.int .u64 a0, .int .i64 x6_2] rfl (by (try simp only [List.map_toArray, List.map_cons, List.map_nil]); first | done | rfl | (simp only [List.length_drop, List.length_take]; rfl)) ?_; (with_reducible refine (caponierref01_Bit.calls a0 x6_2 t157 _ A9.out).mono ?_); rintro e w' ⟨rfl, ⟨nd, rfl⟩⟩; refine ⟨_, rfl, ?_⟩))
        go_roundg k2
        case measure => have := HJ2.out; have := HK2.out; omega
        case rel => exact ⟨(IntKind.u64.wrap ((IntKind.u64.wrap (2 * x5_2)) + t157)), (wrap64 (x6_2 - 1)), (by first | rfl | (simp; done) | (simp [*]; done)), (by first | rfl | (simp; done) | (simp [*]; done)), H', ⟨by have := HJ2.out; have := HK2.out; omega⟩, by repeat (first | exact Drawn0.refl _ | apply Drawn0.step)⟩
       ·rw [if_neg c8] at H
        have c8b0 : decide (x6_2 < a1) = false := decide_eq_false c8
        clear c8
        have H' := Aside0.mk H
        clear H
        go_wp2_with (first | ((with_reducible refine gate_callee (f := 45) rfl ?_); refine goesL_ (some 21) rfl rfl Tryd.func45 (by kernel_rfl) rfl #[.int .u64 a0, .int .i64 (wrap64 (a1 - 1))] rfl (by (try simp only [List.map_toArray, List.map_cons, List.map_nil]); first | done | rfl | (simp only [List.length_drop, List.length_take]; rfl)) ?_; (with_reducible refine (caponierref01_Bit.calls a0 (wrap64 (a1 - 1)) t156 _ A7.out).mono ?_); rintro e w' ⟨rfl, ⟨nd, rfl⟩⟩; refine ⟨_, rfl, ?_⟩))
        go_roundg k2
        case measure => have := HJ2.out; have := HK2.out; omega
        case rel => exact ⟨(IntKind.u64.wrap ((IntKind.u64.wrap (2 * x5_2)) + t156)), (wrap64 (x6_2 - 1)), (by first | rfl | (simp; done) | (simp [*]; done)), (by first | rfl | (simp; done) | (simp [*]; done)), H', ⟨by have := HJ2.out; have := HK2.out; omega⟩, by repeat (first | exact Drawn0.refl _ | apply Drawn0.step)⟩
      ·rw [if_neg c6] at H
       have c6b0 : decide (0 ≤ x6_2) = false := decide_eq_false c6
       clear c6
       obtain rfl := Option.some.inj H
       go_wp2
       go_ret
       exact ⟨by first | rfl | (simp; done) | (simp [*]; done), by repeat (first | exact Drawn0.refl _ | apply Drawn0.step)⟩

end Go.Proofs.YtbdlhhajblhmiaaDoor.QInsDecodes
