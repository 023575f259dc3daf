/- Written by a program of this session (ownprint.py) out of the translation's print, some proofs replaced: Go functions as Lean functions, and that the Go code comes to their answers. -/
import Derived.Test.YtldpmehcpiamlaaQBitsSignsx0
import Derived.Test.YtldpmehcpiamlaaQBitsSignsx1
import Derived.Test.YtldpmehcpiamlaaQBitsSignsx2
namespace Go.Proofs.Ytldpmehcpiamlaa.PBitsSigns
open Go.RowKit Go.Proofs.YtldpmehcpiamlaaW.PrintWords Go.Proofs.YtldpmehcpiamlaaW.PrintLast Go.Proofs.YtldpmehcpiamlaaW.PrintMore
attribute [local go_sem] max2_int min2_int max_two min_two max_three min_three max_four min_four   -- for this text's walks alone
set_option linter.unusedVariables false
set_option linter.unusedSimpArgs false

/-! ### caponierlaw01_BitsSigns: function 4 -/
def caponierlaw01_BitsSigns.j0 : Nat → Int → Int → Int → Bool → Option (Bool)
  | 0, _, _, _, _ => none
  | k + 1, x1, x5, x6, x36 => if x36 = true then (some false) else (if x1 < 1 then (some true) else (if x1 > 64 then (some true) else ((bits_Fits.f x6 x1).bind fun t142 => (if t142 = true then ((bits_Sign.f (IntKind.u64.wrap (x6)) x1).bind fun t143 => (if t143 = x6 then ((bits_Fits.f x5 x1).bind fun t144 => (if t144 = true then (some (x6 == x5)) else (some true))) else (some false))) else (some false)))))
def caponierlaw01_BitsSigns.f (k : Nat) (a0 : Int) (a1 : Int) : Option (Bool) := (caponierlaw01_awake.f k).bind fun t135 => (if t135 = true then ((bits_Sign.f a0 a1).bind fun t136 => ((caponierref01_Sign.f k a0 a1).bind fun t137 => (if t136 = t137 then ((bits_Fits.f (wrap64 (a0)) a1).bind fun t138 => ((caponierref01_Fits.f k (wrap64 (a0)) a1).bind fun t139 => (if (t138 != t139) = true then (caponierlaw01_BitsSigns.j0 k a1 (wrap64 (a0)) t136 true) else ((bits_FitsU.f a0 a1).bind fun t140 => ((caponierref01_FitsU.f k a0 a1).bind fun t141 => (caponierlaw01_BitsSigns.j0 k a1 (wrap64 (a0)) t136 (t140 != t141))))))) else (caponierlaw01_BitsSigns.j0 k a1 (wrap64 (a0)) t136 true)))) else (some false))
theorem caponierlaw01_BitsSigns.mono_l : ∀ k, (∀ y0 y1 y2 y3, LeO (caponierlaw01_BitsSigns.j0 k y0 y1 y2 y3) (caponierlaw01_BitsSigns.j0 (k + 1) y0 y1 y2 y3))
  | 0 => fun _ _ _ _ r h => by simp [caponierlaw01_BitsSigns.j0] at h
  | k + 1 => by
    have ih0 := caponierlaw01_BitsSigns.mono_l k
    · intro y0 y1 y2 y3
      unfold caponierlaw01_BitsSigns.j0
      repeat' first
      | (with_reducible exact ih0 _ _ _ _)
      | (with_reducible exact caponierlaw01_awake.mono _)
      | (with_reducible exact caponierref01_Fits.mono _ _ _)
      | (with_reducible exact caponierref01_FitsU.mono _ _ _)
      | (with_reducible exact caponierref01_Sign.mono _ _ _)
      | (with_reducible exact LeO.refl _)
      | (with_reducible exact LeO.none _)
      | (with_reducible refine LeO.ite ?_ ?_)
      | (with_reducible refine LeO.bind ?_ (fun _ => ?_))
      | exact ih0 _ _ _ _
      | exact caponierlaw01_awake.mono _
      | exact caponierref01_Fits.mono _ _ _
      | exact caponierref01_FitsU.mono _ _ _
      | exact caponierref01_Sign.mono _ _ _
      | exact LeO.none _
      | refine LeO.ite ?_ ?_
      | refine LeO.bind ?_ (fun _ => ?_)
theorem caponierlaw01_BitsSigns.mono : ∀ a0 a1 k, LeO (caponierlaw01_BitsSigns.f k a0 a1) (caponierlaw01_BitsSigns.f (k + 1) a0 a1) := by
  intro a0 a1 k
  have ih0 := caponierlaw01_BitsSigns.mono_l k
  unfold caponierlaw01_BitsSigns.f
  repeat' first
      | (with_reducible exact ih0 _ _ _ _)
      | (with_reducible exact caponierlaw01_awake.mono _)
      | (with_reducible exact caponierref01_Fits.mono _ _ _)
      | (with_reducible exact caponierref01_FitsU.mono _ _ _)
      | (with_reducible exact caponierref01_Sign.mono _ _ _)
      | (with_reducible exact LeO.refl _)
      | (with_reducible exact LeO.none _)
      | (with_reducible refine LeO.ite ?_ ?_)
      | (with_reducible refine LeO.bind ?_ (fun _ => ?_))
      | exact ih0 _ _ _ _
      | exact caponierlaw01_awake.mono _
      | exact caponierref01_Fits.mono _ _ _
      | exact caponierref01_FitsU.mono _ _ _
      | exact caponierref01_Sign.mono _ _ _
      | exact LeO.none _
      | refine LeO.ite ?_ ?_
      | refine LeO.bind ?_ (fun _ => ?_)
set_option maxHeartbeats 8000000 in
set_option maxRecDepth 100000 in
theorem caponierlaw01_BitsSigns.calls (k : Nat) (a0 : Int) (a1 : Int) (r : Bool) (w : World) (h : caponierlaw01_BitsSigns.f k a0 a1 = some r) :
    Calls Try.prog 4 #[.int .u64 a0, .int .i64 a1] w fun e w' => e = .returned (.bool r) ∧ Below w.heap.size w w' := by
  have HB := Aside0.mk (Below.refl w.heap.size w)
  have H : ((caponierlaw01_awake.f k).bind fun t135 => (if t135 = true then ((bits_Sign.f a0 a1).bind fun t136 => ((caponierref01_Sign.f k a0 a1).bind fun t137 => (if t136 = t137 then ((bits_Fits.f (wrap64 (a0)) a1).bind fun t138 => ((caponierref01_Fits.f k (wrap64 (a0)) a1).bind fun t139 => (if (t138 != t139) = true then (caponierlaw01_BitsSigns.j0 k a1 (wrap64 (a0)) t136 true) else ((bits_FitsU.f a0 a1).bind fun t140 => ((caponierref01_FitsU.f k a0 a1).bind fun t141 => (caponierlaw01_BitsSigns.j0 k a1 (wrap64 (a0)) t136 (t140 != t141))))))) else (caponierlaw01_BitsSigns.j0 k a1 (wrap64 (a0)) t136 true)))) else (some false))) = some r := h
  clear h
  replace H := Option.bind_eq_some_iff.mp H
  obtain ⟨t135, A30, H⟩ := H
  replace H : (if t135 = true then ((bits_Sign.f a0 a1).bind fun t136 => ((caponierref01_Sign.f k a0 a1).bind fun t137 => (if t136 = t137 then ((bits_Fits.f (wrap64 (a0)) a1).bind fun t138 => ((caponierref01_Fits.f k (wrap64 (a0)) a1).bind fun t139 => (if (t138 != t139) = true then (caponierlaw01_BitsSigns.j0 k a1 (wrap64 (a0)) t136 true) else ((bits_FitsU.f a0 a1).bind fun t140 => ((caponierref01_FitsU.f k a0 a1).bind fun t141 => (caponierlaw01_BitsSigns.j0 k a1 (wrap64 (a0)) t136 (t140 != t141))))))) else (caponierlaw01_BitsSigns.j0 k a1 (wrap64 (a0)) t136 true)))) else (some false)) = some r := H
  have A3 := Aside0.mk A30
  clear A30
  by_cases c4 : t135 = true
  · subst c4
    have H1 : ((bits_Sign.f a0 a1).bind fun t136 => ((caponierref01_Sign.f k a0 a1).bind fun t137 => (if t136 = t137 then ((bits_Fits.f (wrap64 (a0)) a1).bind fun t138 => ((caponierref01_Fits.f k (wrap64 (a0)) a1).bind fun t139 => (if (t138 != t139) = true then (caponierlaw01_BitsSigns.j0 k a1 (wrap64 (a0)) t136 true) else ((bits_FitsU.f a0 a1).bind fun t140 => ((caponierref01_FitsU.f k a0 a1).bind fun t141 => (caponierlaw01_BitsSigns.j0 k a1 (wrap64 (a0)) t136 (t140 != t141))))))) else (caponierlaw01_BitsSigns.j0 k a1 (wrap64 (a0)) t136 true)))) = some r := by rw [if_pos rfl] at H; exact H
    clear H
    have H := H1
    clear H1
    replace H := Option.bind_eq_some_iff.mp H
    obtain ⟨t136, A50, H⟩ := H
    replace H : ((caponierref01_Sign.f k a0 a1).bind fun t137 => (if t136 = t137 then ((bits_Fits.f (wrap64 (a0)) a1).bind fun t138 => ((caponierref01_Fits.f k (wrap64 (a0)) a1).bind fun t139 => (if (t138 != t139) = true then (caponierlaw01_BitsSigns.j0 k a1 (wrap64 (a0)) t136 true) else ((bits_FitsU.f a0 a1).bind fun t140 => ((caponierref01_FitsU.f k a0 a1).bind fun t141 => (caponierlaw01_BitsSigns.j0 k a1 (wrap64 (a0)) t136 (t140 != t141))))))) else (caponierlaw01_BitsSigns.j0 k a1 (wrap64 (a0)) t136 true))) = some r := H
    have A5 := Aside0.mk A50
    clear A50
    have HC6 := Aside0.mk H
    clear H
    go_enter Try.func4, Try.ntmps4
    go_upto_region 5 with (first | ((with_reducible refine gate_callee (f := 11) rfl ?_); refine goesL_ (some 7) rfl rfl Try.func11 (by kernel_rfl) rfl #[] rfl (by (try simp only [List.map_toArray, List.map_cons, List.map_nil]); first | done | rfl | (simp only [List.length_drop, List.length_take]; rfl)) ?_; (with_reducible refine (caponierlaw01_awake.calls k  true _ A3.out).mono ?_); rintro e w7 ⟨rfl, hb⟩; refine ⟨_, rfl, ?_⟩; have n0_ := Aside0.mk (below_step (by repeat (first | (with_reducible first | exact HB.out | apply below_alloc | apply pw_below_drewN | apply below_drew1) | exact HB.out)) hb); clear HB; have HB := n0_; clear n0_; (try clear hb); (try clear hb2); (try clear hk); (try clear hi)) | ((with_reducible refine gate_callee (f := 16) rfl ?_); refine goesL_ (some 13) rfl rfl Try.func16 (by kernel_rfl) rfl #[.int .u64 a0, .int .i64 a1] rfl (by (try simp only [List.map_toArray, List.map_cons, List.map_nil]); first | done | rfl | (simp only [List.length_drop, List.length_take]; rfl)) ?_; (with_reducible refine (bits_Sign.calls a0 a1 t136 _ A5.out).mono ?_); rintro e w' ⟨rfl, ⟨nd, rfl⟩⟩; refine ⟨_, rfl, ?_⟩))
    (try simp only [Act.put, List.setIfInBounds_toArray, List.set_cons_zero, List.set_cons_succ])
    go_cut [36] (fun v36 wc => ∃ (kq : Nat) (x36_5 : Bool), v36 = .bool x36_5 ∧ Aside0 (caponierlaw01_BitsSigns.j0 kq a1 (wrap64 (a0)) t136 x36_5 = some r) ∧ Aside0 (kq ≤ k) ∧ Aside0 (Below w.heap.size w wc))
    case first =>
      have H := HC6.out
      clear HC6
      replace H := Option.bind_eq_some_iff.mp H
      obtain ⟨t137, A80, H⟩ := H
      replace H : (if t136 = t137 then ((bits_Fits.f (wrap64 (a0)) a1).bind fun t138 => ((caponierref01_Fits.f k (wrap64 (a0)) a1).bind fun t139 => (if (t138 != t139) = true then (caponierlaw01_BitsSigns.j0 k a1 (wrap64 (a0)) t136 true) else ((bits_FitsU.f a0 a1).bind fun t140 => ((caponierref01_FitsU.f k a0 a1).bind fun t141 => (caponierlaw01_BitsSigns.j0 k a1 (wrap64 (a0)) t136 (t140 != t141))))))) else (caponierlaw01_BitsSigns.j0 k a1 (wrap64 (a0)) t136 true)) = some r := H
      have A8 := Aside0.mk A80
      clear A80
      by_cases c9 : t136 = t137
      · rw [if_pos c9] at H
        have c9b0 : (t136 == t137) = true := beq_iff_eq.mpr c9
        have c9b1 : (t136 != t137) = false := bne_eq_false_iff_eq.mpr c9
        clear c9
        (first | rw [c9b0] | (simp only [i64_w, i32_w]; rw [c9b0]) | skip)
        replace H := Option.bind_eq_some_iff.mp H
        obtain ⟨t138, A100, H⟩ := H
        replace H : ((caponierref01_Fits.f k (wrap64 (a0)) a1).bind fun t139 => (if (t138 != t139) = true then (caponierlaw01_BitsSigns.j0 k a1 (wrap64 (a0)) t136 true) else ((bits_FitsU.f a0 a1).bind fun t140 => ((caponierref01_FitsU.f k a0 a1).bind fun t141 => (caponierlaw01_BitsSigns.j0 k a1 (wrap64 (a0)) t136 (t140 != t141)))))) = some r := H
        have A10 := Aside0.mk A100
        clear A100
        replace H := Option.bind_eq_some_iff.mp H
        obtain ⟨t139, A110, H⟩ := H
        replace H : (if (t138 != t139) = true then (caponierlaw01_BitsSigns.j0 k a1 (wrap64 (a0)) t136 true) else ((bits_FitsU.f a0 a1).bind fun t140 => ((caponierref01_FitsU.f k a0 a1).bind fun t141 => (caponierlaw01_BitsSigns.j0 k a1 (wrap64 (a0)) t136 (t140 != t141))))) = some r := H
        have A11 := Aside0.mk A110
        clear A110
        by_cases c12 : (t138 != t139) = true
        · rw [if_pos c12] at H
          have c12b0 : (t138 != t139) = true := c12
          (try (have c12b1 : decide (t138 = t139) = false := by simpa using c12))
          (try (have c12b2 : (t138 == t139) = false := by simpa using c12))
          (try (have c12b3 : ¬ (t138 = t139) := by simpa using c12))
          clear c12
          have H' := Aside0.mk H
          clear H
          go_wp2_with (first | ((with_reducible refine gate_callee (f := 17) rfl ?_); refine goesL_ (some 17) rfl rfl Try.func17 (by kernel_rfl) rfl #[.int .u64 a0, .int .i64 a1] rfl (by (try simp only [List.map_toArray, List.map_cons, List.map_nil]); first | done | rfl | (simp only [List.length_drop, List.length_take]; rfl)) ?_; (with_reducible refine (caponierref01_Sign.calls k a0 a1 t137 _ A8.out).mono ?_); rintro e w' ⟨rfl, ⟨nd, rfl⟩⟩; refine ⟨_, rfl, ?_⟩) | (go_at_call 18; (with_reducible refine (bits_Fits.calls (wrap64 (a0)) a1 t138 _ A10.out).mono ?_); rintro e w' ⟨rfl, ⟨nd, rfl⟩⟩) | (go_at_call 19; (with_reducible refine (caponierref01_Fits.calls k (wrap64 (a0)) a1 t139 _ A11.out).mono ?_); rintro e w' ⟨rfl, ⟨nd, rfl⟩⟩))
          go_meet
          case rel => exact ⟨_, (true), (by first | rfl | (simp; done) | (simp [*]; done)), H', ⟨by first | omega | exact Nat.le_refl _⟩, ⟨by repeat (first | (with_reducible first | exact HB.out | apply below_alloc | apply pw_below_drewN | apply below_drew1) | exact HB.out)⟩⟩
        · rw [if_neg c12] at H
          have c12b0 : (t138 != t139) = false := by simpa using c12
          (try (have c12b1 : decide (t138 = t139) = true := by simpa using c12))
          (try (have c12b2 : (t138 == t139) = true := by simpa using c12))
          clear c12
          replace H := Option.bind_eq_some_iff.mp H
          obtain ⟨t140, A130, H⟩ := H
          replace H : ((caponierref01_FitsU.f k a0 a1).bind fun t141 => (caponierlaw01_BitsSigns.j0 k a1 (wrap64 (a0)) t136 (t140 != t141))) = some r := H
          have A13 := Aside0.mk A130
          clear A130
          replace H := Option.bind_eq_some_iff.mp H
          obtain ⟨t141, A140, H⟩ := H
          replace H : (caponierlaw01_BitsSigns.j0 k a1 (wrap64 (a0)) t136 (t140 != t141)) = some r := H
          have A14 := Aside0.mk A140
          clear A140
          have H' := Aside0.mk H
          clear H
          go_wp2_with (first | ((with_reducible refine gate_callee (f := 17) rfl ?_); refine goesL_ (some 17) rfl rfl Try.func17 (by kernel_rfl) rfl #[.int .u64 a0, .int .i64 a1] rfl (by (try simp only [List.map_toArray, List.map_cons, List.map_nil]); first | done | rfl | (simp only [List.length_drop, List.length_take]; rfl)) ?_; (with_reducible refine (caponierref01_Sign.calls k a0 a1 t137 _ A8.out).mono ?_); rintro e w' ⟨rfl, ⟨nd, rfl⟩⟩; refine ⟨_, rfl, ?_⟩) | (go_at_call 18; (with_reducible refine (bits_Fits.calls (wrap64 (a0)) a1 t138 _ A10.out).mono ?_); rintro e w' ⟨rfl, ⟨nd, rfl⟩⟩) | (go_at_call 19; (with_reducible refine (caponierref01_Fits.calls k (wrap64 (a0)) a1 t139 _ A11.out).mono ?_); rintro e w' ⟨rfl, ⟨nd, rfl⟩⟩) | (go_at_call 20; (with_reducible refine (bits_FitsU.calls a0 a1 t140 _ A13.out).mono ?_); rintro e w' ⟨rfl, ⟨nd, rfl⟩⟩) | (go_at_call 21; (with_reducible refine (caponierref01_FitsU.calls k a0 a1 t141 _ A14.out).mono ?_); rintro e w' ⟨rfl, ⟨nd, rfl⟩⟩))
          go_meet
          case rel => exact ⟨_, ((t140 != t141)), (by first | rfl | (simp; done) | (simp [*]; done)), H', ⟨by first | omega | exact Nat.le_refl _⟩, ⟨by repeat (first | (with_reducible first | exact HB.out | apply below_alloc | apply pw_below_drewN | apply below_drew1) | exact HB.out)⟩⟩
      · rw [if_neg c9] at H
        have c9b0 : (t136 == t137) = false := beq_eq_false_iff_ne.mpr c9
        have c9b1 : (t136 != t137) = true := bne_iff_ne.mpr c9
        (first | rw [c9b0] | (simp only [i64_w, i32_w]; rw [c9b0]) | skip)
        have H' := Aside0.mk H
        clear H
        go_wp2_with (first | ((with_reducible refine gate_callee (f := 17) rfl ?_); refine goesL_ (some 17) rfl rfl Try.func17 (by kernel_rfl) rfl #[.int .u64 a0, .int .i64 a1] rfl (by (try simp only [List.map_toArray, List.map_cons, List.map_nil]); first | done | rfl | (simp only [List.length_drop, List.length_take]; rfl)) ?_; (with_reducible refine (caponierref01_Sign.calls k a0 a1 t137 _ A8.out).mono ?_); rintro e w' ⟨rfl, ⟨nd, rfl⟩⟩; refine ⟨_, rfl, ?_⟩))
        go_meet
        case rel => exact ⟨_, (true), (by first | rfl | (simp; done) | (simp [*]; done)), H', ⟨by first | omega | exact Nat.le_refl _⟩, ⟨by repeat (first | (with_reducible first | exact HB.out | apply below_alloc | apply pw_below_drewN | apply below_drew1) | exact HB.out)⟩⟩
    case rest =>
      clear HC6
      try clear c1
      try clear p2
      try clear c4
      try clear p6
      try clear c9
      try clear c9b0
      try clear c9b1
      try clear c11
      try clear c12
      try clear c12b0
      try clear c12b1
      try clear c12b2
      obtain ⟨kq, x36_5, rfl, HA, HJ5, HB⟩ := hcut
      cases kq with
      | zero => exact absurd HA.out (by simp [caponierlaw01_BitsSigns.j0])
      | succ kj5 =>
        have H := HA.out
        clear HA
        simp only [caponierlaw01_BitsSigns.j0] at H
        by_cases c15 : x36_5 = true
        · subst c15
          have H1 : (some false) = some r := by rw [if_pos rfl] at H; exact H
          clear H
          have H := H1
          clear H1
          obtain rfl := Option.some.inj H
          go_wp2
          go_ret
          exact ⟨by first | rfl | (simp [errW_none, errW_some] <;> rfl) | (simp [*, errW_none, errW_some] <;> rfl), by repeat (first | (with_reducible first | exact HB.out | apply below_alloc | apply pw_below_drewN | apply below_drew1) | exact HB.out)⟩
        · replace c15 := Bool.eq_false_iff.mpr c15
          subst c15
          have H1 : (if a1 < 1 then (some true) else (if a1 > 64 then (some true) else ((bits_Fits.f t136 a1).bind fun t142 => (if t142 = true then ((bits_Sign.f (IntKind.u64.wrap (t136)) a1).bind fun t143 => (if t143 = t136 then ((bits_Fits.f (wrap64 (a0)) a1).bind fun t144 => (if t144 = true then (some (t136 == (wrap64 (a0)))) else (some true))) else (some false))) else (some false))))) = some r := by rw [if_neg (show ¬ (false = true) by decide)] at H; exact H
          clear H
          have H := H1
          clear H1
          by_cases c16 : a1 < 1
          · rw [if_pos c16] at H
            have c16b0 : decide (a1 < 1) = true := decide_eq_true c16
            clear c16
            obtain rfl := Option.some.inj H
            go_wp2
            go_ret
            exact ⟨by first | rfl | (simp [errW_none, errW_some] <;> rfl) | (simp [*, errW_none, errW_some] <;> rfl), by repeat (first | (with_reducible first | exact HB.out | apply below_alloc | apply pw_below_drewN | apply below_drew1) | exact HB.out)⟩
          · rw [if_neg c16] at H
            have c16b0 : decide (a1 < 1) = false := decide_eq_false c16
            clear c16
            by_cases c17 : a1 > 64
            · rw [if_pos c17] at H
              have c17b0 : decide (64 < a1) = true := decide_eq_true c17
              clear c17
              obtain rfl := Option.some.inj H
              go_wp2
              go_ret
              exact ⟨by first | rfl | (simp [errW_none, errW_some] <;> rfl) | (simp [*, errW_none, errW_some] <;> rfl), by repeat (first | (with_reducible first | exact HB.out | apply below_alloc | apply pw_below_drewN | apply below_drew1) | exact HB.out)⟩
            · rw [if_neg c17] at H
              have c17b0 : decide (64 < a1) = false := decide_eq_false c17
              clear c17
              replace H := Option.bind_eq_some_iff.mp H
              obtain ⟨t142, A180, H⟩ := H
              replace H : (if t142 = true then ((bits_Sign.f (IntKind.u64.wrap (t136)) a1).bind fun t143 => (if t143 = t136 then ((bits_Fits.f (wrap64 (a0)) a1).bind fun t144 => (if t144 = true then (some (t136 == (wrap64 (a0)))) else (some true))) else (some false))) else (some false)) = some r := H
              have A18 := Aside0.mk A180
              clear A180
              by_cases c19 : t142 = true
              · subst c19
                have H1 : ((bits_Sign.f (IntKind.u64.wrap (t136)) a1).bind fun t143 => (if t143 = t136 then ((bits_Fits.f (wrap64 (a0)) a1).bind fun t144 => (if t144 = true then (some (t136 == (wrap64 (a0)))) else (some true))) else (some false))) = some r := by rw [if_pos rfl] at H; exact H
                clear H
                have H := H1
                clear H1
                replace H := Option.bind_eq_some_iff.mp H
                obtain ⟨t143, A200, H⟩ := H
                replace H : (if t143 = t136 then ((bits_Fits.f (wrap64 (a0)) a1).bind fun t144 => (if t144 = true then (some (t136 == (wrap64 (a0)))) else (some true))) else (some false)) = some r := H
                have A20 := Aside0.mk A200
                clear A200
                by_cases c21 : t143 = t136
                · rw [if_pos c21] at H
                  have c21b0 : (t143 == t136) = true := beq_iff_eq.mpr c21
                  have c21b1 : (t143 != t136) = false := bne_eq_false_iff_eq.mpr c21
                  clear c21
                  replace H := Option.bind_eq_some_iff.mp H
                  obtain ⟨t144, A220, H⟩ := H
                  replace H : (if t144 = true then (some (t136 == (wrap64 (a0)))) else (some true)) = some r := H
                  have A22 := Aside0.mk A220
                  clear A220
                  by_cases c23 : t144 = true
                  · subst c23
                    have H1 : (some (t136 == (wrap64 (a0)))) = some r := by rw [if_pos rfl] at H; exact H
                    clear H
                    have H := H1
                    clear H1
                    obtain rfl := Option.some.inj H
                    go_wp2_with (first | (go_at_call 18; (with_reducible refine (bits_Fits.calls t136 a1 true _ A18.out).mono ?_); rintro e w' ⟨rfl, ⟨nd, rfl⟩⟩) | (go_at_call 16; (with_reducible refine (bits_Sign.calls (IntKind.u64.wrap (t136)) a1 t143 _ A20.out).mono ?_); rintro e w' ⟨rfl, ⟨nd, rfl⟩⟩) | (go_at_call 18; (with_reducible refine (bits_Fits.calls (wrap64 (a0)) a1 true _ A22.out).mono ?_); rintro e w' ⟨rfl, ⟨nd, rfl⟩⟩))
                    go_ret
                    exact ⟨by first | rfl | (simp [errW_none, errW_some] <;> rfl) | (simp [*, errW_none, errW_some] <;> rfl), by repeat (first | (with_reducible first | exact HB.out | apply below_alloc | apply pw_below_drewN | apply below_drew1) | exact HB.out)⟩
                  · replace c23 := Bool.eq_false_iff.mpr c23
                    subst c23
                    have H1 : (some true) = some r := by rw [if_neg (show ¬ (false = true) by decide)] at H; exact H
                    clear H
                    have H := H1
                    clear H1
                    obtain rfl := Option.some.inj H
                    go_wp2_with (first | (go_at_call 18; (with_reducible refine (bits_Fits.calls t136 a1 true _ A18.out).mono ?_); rintro e w' ⟨rfl, ⟨nd, rfl⟩⟩) | (go_at_call 16; (with_reducible refine (bits_Sign.calls (IntKind.u64.wrap (t136)) a1 t143 _ A20.out).mono ?_); rintro e w' ⟨rfl, ⟨nd, rfl⟩⟩) | (go_at_call 18; (with_reducible refine (bits_Fits.calls (wrap64 (a0)) a1 false _ A22.out).mono ?_); rintro e w' ⟨rfl, ⟨nd, rfl⟩⟩))
                    go_ret
                    exact ⟨by first | rfl | (simp [errW_none, errW_some] <;> rfl) | (simp [*, errW_none, errW_some] <;> rfl), by repeat (first | (with_reducible first | exact HB.out | apply below_alloc | apply pw_below_drewN | apply below_drew1) | exact HB.out)⟩
                · rw [if_neg c21] at H
                  have c21b0 : (t143 == t136) = false := beq_eq_false_iff_ne.mpr c21
                  have c21b1 : (t143 != t136) = true := bne_iff_ne.mpr c21
                  obtain rfl := Option.some.inj H
                  go_wp2_with (first | (go_at_call 18; (with_reducible refine (bits_Fits.calls t136 a1 true _ A18.out).mono ?_); rintro e w' ⟨rfl, ⟨nd, rfl⟩⟩) | (go_at_call 16; (with_reducible refine (bits_Sign.calls (IntKind.u64.wrap (t136)) a1 t143 _ A20.out).mono ?_); rintro e w' ⟨rfl, ⟨nd, rfl⟩⟩))
                  go_ret
                  exact ⟨by first | rfl | (simp [errW_none, errW_some] <;> rfl) | (simp [*, errW_none, errW_some] <;> rfl), by repeat (first | (with_reducible first | exact HB.out | apply below_alloc | apply pw_below_drewN | apply below_drew1) | exact HB.out)⟩
              · replace c19 := Bool.eq_false_iff.mpr c19
                subst c19
                have H1 : (some false) = some r := by rw [if_neg (show ¬ (false = true) by decide)] at H; exact H
                clear H
                have H := H1
                clear H1
                obtain rfl := Option.some.inj H
                go_wp2_with (first | (go_at_call 18; (with_reducible refine (bits_Fits.calls t136 a1 false _ A18.out).mono ?_); rintro e w' ⟨rfl, ⟨nd, rfl⟩⟩))
                go_ret
                exact ⟨by first | rfl | (simp [errW_none, errW_some] <;> rfl) | (simp [*, errW_none, errW_some] <;> rfl), by repeat (first | (with_reducible first | exact HB.out | apply below_alloc | apply pw_below_drewN | apply below_drew1) | exact HB.out)⟩
  · replace c4 := Bool.eq_false_iff.mpr c4
    subst c4
    have H1 : (some false) = some r := by rw [if_neg (show ¬ (false = true) by decide)] at H; exact H
    clear H
    have H := H1
    clear H1
    obtain rfl := Option.some.inj H
    go_enter Try.func4, Try.ntmps4
    go_wp2_with (first | ((with_reducible refine gate_callee (f := 11) rfl ?_); refine goesL_ (some 7) rfl rfl Try.func11 (by kernel_rfl) rfl #[] rfl (by (try simp only [List.map_toArray, List.map_cons, List.map_nil]); first | done | rfl | (simp only [List.length_drop, List.length_take]; rfl)) ?_; (with_reducible refine (caponierlaw01_awake.calls k  false _ A3.out).mono ?_); rintro e w24 ⟨rfl, hb⟩; refine ⟨_, rfl, ?_⟩; have n0_ := Aside0.mk (below_step (by repeat (first | (with_reducible first | exact HB.out | apply below_alloc | apply pw_below_drewN | apply below_drew1) | exact HB.out)) hb); clear HB; have HB := n0_; clear n0_; (try clear hb); (try clear hb2); (try clear hk); (try clear hi)))
    go_ret
    exact ⟨by first | rfl | (simp [errW_none, errW_some] <;> rfl) | (simp [*, errW_none, errW_some] <;> rfl), by repeat (first | (with_reducible first | exact HB.out | apply below_alloc | apply pw_below_drewN | apply below_drew1) | exact HB.out)⟩

/-- THE ONE PURE STATEMENT of caponierlaw01_BitsSigns: yours. -/
def caponierlaw01_BitsSigns.Pure : Prop := ∀ (a0 : Int) (a1 : Int), (Lit.int .u64 a0).wf = true → (Lit.int .i64 a1).wf = true → ∃ k, caponierlaw01_BitsSigns.f k a0 a1 = some true
theorem caponierlaw01_BitsSigns.walk (P : caponierlaw01_BitsSigns.Pure) (a0 : Int) (a1 : Int) (w : World) (w0 : (Lit.int .u64 a0).wf = true) (w1 : (Lit.int .i64 a1).wf = true) :
    Calls Try.prog 4 #[.int .u64 a0, .int .i64 a1] w fun e w' => e = .returned (.bool true) ∧ Below w.heap.size w w' := by
  obtain ⟨k, h⟩ := P a0 a1 w0 w1
  refine (caponierlaw01_BitsSigns.calls k a0 a1 true w h).mono ?_
  rintro e w' ⟨rfl, hd⟩
  exact ⟨rfl, hd⟩

end Go.Proofs.Ytldpmehcpiamlaa.PBitsSigns
