/- Written by a program of this session (ownprint.py) out of the translation's print, some proofs replaced: Go functions as Lean functions, and that the Go code comes to their answers. -/
import Derived.Test.YtldpmehcpiamlaaQBitsOnesx0
import Derived.Test.YtldpmehcpiamlaaQBitsOnesx1
namespace Go.Proofs.Ytldpmehcpiamlaa.PBitsOnes
open Go.RowKit Go.Proofs.YtldpmehcpiamlaaW.PrintWords Go.Proofs.YtldpmehcpiamlaaW.PrintLast Go.Proofs.YtldpmehcpiamlaaW.PrintMore
attribute [local go_sem] max2_int min2_int max_two min_two max_three min_three max_four min_four   -- for this text's walks alone
set_option linter.unusedVariables false
set_option linter.unusedSimpArgs false

/-! ### caponierlaw01_awake: function 11 -/
def caponierlaw01_awake.f (k : Nat)  : Option (Bool) := (bits_Field.f 43981 4 8).bind fun bt114 => ((bits_Put.f 43981 4 8 274).bind fun bt116 => ((bits_Field.f 1 60 5).bind fun bt118 => (if bt114.1 = 188 then (if bt114.2 = true then (if bt116.1 = 41261 then (if bt116.2 = true then (if bt118.2 = true then (some false) else ((bits_Sign.f 255 8).bind fun t120 => (if t120 = (-1) then ((bits_Fits.f (-1) 1).bind fun t121 => (if t121 = true then ((bits_Fits.f 1 1).bind fun t122 => (if t122 = true then (some false) else ((bits_FitsU.f 1 1).bind fun t123 => (if t123 = true then ((bits_Bytes.f k 258 2).bind fun t124 => ((caponierref01_Same.f k t124 (([2, 1] : List Int))).bind fun t130 => (some t130))) else (some false))))) else (some false))) else (some false)))) else (some false)) else (some false)) else (some false)) else (some false))))
theorem caponierlaw01_awake.mono : ∀ k, LeO (caponierlaw01_awake.f k ) (caponierlaw01_awake.f (k + 1) ) := by
  intro  k
  unfold caponierlaw01_awake.f
  repeat' first
      | (with_reducible exact bits_Bytes.mono _ _ _)
      | (with_reducible exact caponierref01_Same.mono _ _ _)
      | (with_reducible exact LeO.refl _)
      | (with_reducible exact LeO.none _)
      | (with_reducible refine LeO.ite ?_ ?_)
      | (with_reducible refine LeO.bind ?_ (fun _ => ?_))
      | exact bits_Bytes.mono _ _ _
      | exact caponierref01_Same.mono _ _ _
      | exact LeO.none _
      | refine LeO.ite ?_ ?_
      | refine LeO.bind ?_ (fun _ => ?_)
set_option maxHeartbeats 8000000 in
set_option maxRecDepth 100000 in
theorem caponierlaw01_awake.calls (k : Nat)  (r : Bool) (w : World) (h : caponierlaw01_awake.f k  = some r) :
    Calls Try.prog 11 #[] w fun e w' => e = .returned (.bool r) ∧ Below w.heap.size w w' := by
  have HB := Aside0.mk (Below.refl w.heap.size w)
  have H : ((bits_Field.f 43981 4 8).bind fun bt114 => ((bits_Put.f 43981 4 8 274).bind fun bt116 => ((bits_Field.f 1 60 5).bind fun bt118 => (if bt114.1 = 188 then (if bt114.2 = true then (if bt116.1 = 41261 then (if bt116.2 = true then (if bt118.2 = true then (some false) else ((bits_Sign.f 255 8).bind fun t120 => (if t120 = (-1) then ((bits_Fits.f (-1) 1).bind fun t121 => (if t121 = true then ((bits_Fits.f 1 1).bind fun t122 => (if t122 = true then (some false) else ((bits_FitsU.f 1 1).bind fun t123 => (if t123 = true then ((bits_Bytes.f k 258 2).bind fun t124 => ((caponierref01_Same.f k t124 (([2, 1] : List Int))).bind fun t130 => (some t130))) else (some false))))) else (some false))) else (some false)))) else (some false)) else (some false)) else (some false)) else (some false))))) = some r := h
  clear h
  replace H := Option.bind_eq_some_iff.mp H
  obtain ⟨⟨t114, t115⟩, A10, H⟩ := H
  replace H : ((bits_Put.f 43981 4 8 274).bind fun bt116 => ((bits_Field.f 1 60 5).bind fun bt118 => (if t114 = 188 then (if t115 = true then (if bt116.1 = 41261 then (if bt116.2 = true then (if bt118.2 = true then (some false) else ((bits_Sign.f 255 8).bind fun t120 => (if t120 = (-1) then ((bits_Fits.f (-1) 1).bind fun t121 => (if t121 = true then ((bits_Fits.f 1 1).bind fun t122 => (if t122 = true then (some false) else ((bits_FitsU.f 1 1).bind fun t123 => (if t123 = true then ((bits_Bytes.f k 258 2).bind fun t124 => ((caponierref01_Same.f k t124 (([2, 1] : List Int))).bind fun t130 => (some t130))) else (some false))))) else (some false))) else (some false)))) else (some false)) else (some false)) else (some false)) else (some false)))) = some r := H
  have A1 := Aside0.mk A10
  clear A10
  replace H := Option.bind_eq_some_iff.mp H
  obtain ⟨⟨t116, t117⟩, A20, H⟩ := H
  replace H : ((bits_Field.f 1 60 5).bind fun bt118 => (if t114 = 188 then (if t115 = true then (if t116 = 41261 then (if t117 = true then (if bt118.2 = true then (some false) else ((bits_Sign.f 255 8).bind fun t120 => (if t120 = (-1) then ((bits_Fits.f (-1) 1).bind fun t121 => (if t121 = true then ((bits_Fits.f 1 1).bind fun t122 => (if t122 = true then (some false) else ((bits_FitsU.f 1 1).bind fun t123 => (if t123 = true then ((bits_Bytes.f k 258 2).bind fun t124 => ((caponierref01_Same.f k t124 (([2, 1] : List Int))).bind fun t130 => (some t130))) else (some false))))) else (some false))) else (some false)))) else (some false)) else (some false)) else (some false)) else (some false))) = some r := H
  have A2 := Aside0.mk A20
  clear A20
  replace H := Option.bind_eq_some_iff.mp H
  obtain ⟨⟨t118, t119⟩, A30, H⟩ := H
  replace H : (if t114 = 188 then (if t115 = true then (if t116 = 41261 then (if t117 = true then (if t119 = true then (some false) else ((bits_Sign.f 255 8).bind fun t120 => (if t120 = (-1) then ((bits_Fits.f (-1) 1).bind fun t121 => (if t121 = true then ((bits_Fits.f 1 1).bind fun t122 => (if t122 = true then (some false) else ((bits_FitsU.f 1 1).bind fun t123 => (if t123 = true then ((bits_Bytes.f k 258 2).bind fun t124 => ((caponierref01_Same.f k t124 (([2, 1] : List Int))).bind fun t130 => (some t130))) else (some false))))) else (some false))) else (some false)))) else (some false)) else (some false)) else (some false)) else (some false)) = some r := H
  have A3 := Aside0.mk A30
  clear A30
  by_cases c4 : t114 = 188
  · rw [if_pos c4] at H
    have c4b0 : (t114 == 188) = true := beq_iff_eq.mpr c4
    have c4b1 : (t114 != 188) = false := bne_eq_false_iff_eq.mpr c4
    clear c4
    by_cases c5 : t115 = true
    · subst c5
      have H1 : (if t116 = 41261 then (if t117 = true then (if t119 = true then (some false) else ((bits_Sign.f 255 8).bind fun t120 => (if t120 = (-1) then ((bits_Fits.f (-1) 1).bind fun t121 => (if t121 = true then ((bits_Fits.f 1 1).bind fun t122 => (if t122 = true then (some false) else ((bits_FitsU.f 1 1).bind fun t123 => (if t123 = true then ((bits_Bytes.f k 258 2).bind fun t124 => ((caponierref01_Same.f k t124 (([2, 1] : List Int))).bind fun t130 => (some t130))) else (some false))))) else (some false))) else (some false)))) else (some false)) else (some false)) = some r := by rw [if_pos rfl] at H; exact H
      clear H
      have H := H1
      clear H1
      by_cases c6 : t116 = 41261
      · rw [if_pos c6] at H
        have c6b0 : (t116 == 41261) = true := beq_iff_eq.mpr c6
        have c6b1 : (t116 != 41261) = false := bne_eq_false_iff_eq.mpr c6
        clear c6
        by_cases c7 : t117 = true
        · subst c7
          have H1 : (if t119 = true then (some false) else ((bits_Sign.f 255 8).bind fun t120 => (if t120 = (-1) then ((bits_Fits.f (-1) 1).bind fun t121 => (if t121 = true then ((bits_Fits.f 1 1).bind fun t122 => (if t122 = true then (some false) else ((bits_FitsU.f 1 1).bind fun t123 => (if t123 = true then ((bits_Bytes.f k 258 2).bind fun t124 => ((caponierref01_Same.f k t124 (([2, 1] : List Int))).bind fun t130 => (some t130))) else (some false))))) else (some false))) else (some false)))) = some r := by rw [if_pos rfl] at H; exact H
          clear H
          have H := H1
          clear H1
          by_cases c8 : t119 = true
          · subst c8
            have H1 : (some false) = some r := by rw [if_pos rfl] at H; exact H
            clear H
            have H := H1
            clear H1
            obtain rfl := Option.some.inj H
            go_enter Try.func11, Try.ntmps11
            go_wp2_with (first | ((with_reducible refine gate_callee (f := 12) rfl ?_); refine goesL_ (some 8) rfl rfl Try.func12 (by kernel_rfl) rfl #[.int .u64 43981, .int .i64 4, .int .i64 8] rfl (by (try simp only [List.map_toArray, List.map_cons, List.map_nil]); first | done | rfl | (simp only [List.length_drop, List.length_take]; rfl)) ?_; (with_reducible refine (bits_Field.calls 43981 4 8 t114 true _ A1.out).mono ?_); rintro e w' ⟨rfl, ⟨nd, rfl⟩⟩; refine ⟨_, rfl, ?_⟩) | ((with_reducible refine gate_callee (f := 14) rfl ?_); refine goesL_ (some 12) rfl rfl Try.func14 (by kernel_rfl) rfl #[.int .u64 43981, .int .i64 4, .int .i64 8, .int .u64 274] rfl (by (try simp only [List.map_toArray, List.map_cons, List.map_nil]); first | done | rfl | (simp only [List.length_drop, List.length_take]; rfl)) ?_; (with_reducible refine (bits_Put.calls 43981 4 8 274 t116 true _ A2.out).mono ?_); rintro e w' ⟨rfl, ⟨nd, rfl⟩⟩; refine ⟨_, rfl, ?_⟩) | ((with_reducible refine gate_callee (f := 12) rfl ?_); refine goesL_ (some 16) rfl rfl Try.func12 (by kernel_rfl) rfl #[.int .u64 1, .int .i64 60, .int .i64 5] rfl (by (try simp only [List.map_toArray, List.map_cons, List.map_nil]); first | done | rfl | (simp only [List.length_drop, List.length_take]; rfl)) ?_; (with_reducible refine (bits_Field.calls 1 60 5 t118 true _ A3.out).mono ?_); rintro e w' ⟨rfl, ⟨nd, rfl⟩⟩; refine ⟨_, rfl, ?_⟩))
            go_ret
            exact ⟨by first | rfl | (simp [errW_none, errW_some] <;> rfl) | (simp [*, errW_none, errW_some] <;> rfl), by repeat (first | (with_reducible first | exact HB.out | apply below_alloc | apply pw_below_drewN | apply below_drew1) | exact HB.out)⟩
          · replace c8 := Bool.eq_false_iff.mpr c8
            subst c8
            have H1 : ((bits_Sign.f 255 8).bind fun t120 => (if t120 = (-1) then ((bits_Fits.f (-1) 1).bind fun t121 => (if t121 = true then ((bits_Fits.f 1 1).bind fun t122 => (if t122 = true then (some false) else ((bits_FitsU.f 1 1).bind fun t123 => (if t123 = true then ((bits_Bytes.f k 258 2).bind fun t124 => ((caponierref01_Same.f k t124 (([2, 1] : List Int))).bind fun t130 => (some t130))) else (some false))))) else (some false))) else (some false))) = some r := by rw [if_neg (show ¬ (false = true) by decide)] at H; exact H
            clear H
            have H := H1
            clear H1
            replace H := Option.bind_eq_some_iff.mp H
            obtain ⟨t120, A90, H⟩ := H
            replace H : (if t120 = (-1) then ((bits_Fits.f (-1) 1).bind fun t121 => (if t121 = true then ((bits_Fits.f 1 1).bind fun t122 => (if t122 = true then (some false) else ((bits_FitsU.f 1 1).bind fun t123 => (if t123 = true then ((bits_Bytes.f k 258 2).bind fun t124 => ((caponierref01_Same.f k t124 (([2, 1] : List Int))).bind fun t130 => (some t130))) else (some false))))) else (some false))) else (some false)) = some r := H
            have A9 := Aside0.mk A90
            clear A90
            by_cases c10 : t120 = (-1)
            · rw [if_pos c10] at H
              have c10b0 : (t120 == (-1)) = true := beq_iff_eq.mpr c10
              have c10b1 : (t120 != (-1)) = false := bne_eq_false_iff_eq.mpr c10
              clear c10
              replace H := Option.bind_eq_some_iff.mp H
              obtain ⟨t121, A110, H⟩ := H
              replace H : (if t121 = true then ((bits_Fits.f 1 1).bind fun t122 => (if t122 = true then (some false) else ((bits_FitsU.f 1 1).bind fun t123 => (if t123 = true then ((bits_Bytes.f k 258 2).bind fun t124 => ((caponierref01_Same.f k t124 (([2, 1] : List Int))).bind fun t130 => (some t130))) else (some false))))) else (some false)) = some r := H
              have A11 := Aside0.mk A110
              clear A110
              by_cases c12 : t121 = true
              · subst c12
                have H1 : ((bits_Fits.f 1 1).bind fun t122 => (if t122 = true then (some false) else ((bits_FitsU.f 1 1).bind fun t123 => (if t123 = true then ((bits_Bytes.f k 258 2).bind fun t124 => ((caponierref01_Same.f k t124 (([2, 1] : List Int))).bind fun t130 => (some t130))) else (some false))))) = some r := by rw [if_pos rfl] at H; exact H
                clear H
                have H := H1
                clear H1
                replace H := Option.bind_eq_some_iff.mp H
                obtain ⟨t122, A130, H⟩ := H
                replace H : (if t122 = true then (some false) else ((bits_FitsU.f 1 1).bind fun t123 => (if t123 = true then ((bits_Bytes.f k 258 2).bind fun t124 => ((caponierref01_Same.f k t124 (([2, 1] : List Int))).bind fun t130 => (some t130))) else (some false)))) = some r := H
                have A13 := Aside0.mk A130
                clear A130
                by_cases c14 : t122 = true
                · subst c14
                  have H1 : (some false) = some r := by rw [if_pos rfl] at H; exact H
                  clear H
                  have H := H1
                  clear H1
                  obtain rfl := Option.some.inj H
                  go_enter Try.func11, Try.ntmps11
                  go_wp2_with (first | ((with_reducible refine gate_callee (f := 12) rfl ?_); refine goesL_ (some 8) rfl rfl Try.func12 (by kernel_rfl) rfl #[.int .u64 43981, .int .i64 4, .int .i64 8] rfl (by (try simp only [List.map_toArray, List.map_cons, List.map_nil]); first | done | rfl | (simp only [List.length_drop, List.length_take]; rfl)) ?_; (with_reducible refine (bits_Field.calls 43981 4 8 t114 true _ A1.out).mono ?_); rintro e w' ⟨rfl, ⟨nd, rfl⟩⟩; refine ⟨_, rfl, ?_⟩) | ((with_reducible refine gate_callee (f := 14) rfl ?_); refine goesL_ (some 12) rfl rfl Try.func14 (by kernel_rfl) rfl #[.int .u64 43981, .int .i64 4, .int .i64 8, .int .u64 274] rfl (by (try simp only [List.map_toArray, List.map_cons, List.map_nil]); first | done | rfl | (simp only [List.length_drop, List.length_take]; rfl)) ?_; (with_reducible refine (bits_Put.calls 43981 4 8 274 t116 true _ A2.out).mono ?_); rintro e w' ⟨rfl, ⟨nd, rfl⟩⟩; refine ⟨_, rfl, ?_⟩) | ((with_reducible refine gate_callee (f := 12) rfl ?_); refine goesL_ (some 16) rfl rfl Try.func12 (by kernel_rfl) rfl #[.int .u64 1, .int .i64 60, .int .i64 5] rfl (by (try simp only [List.map_toArray, List.map_cons, List.map_nil]); first | done | rfl | (simp only [List.length_drop, List.length_take]; rfl)) ?_; (with_reducible refine (bits_Field.calls 1 60 5 t118 false _ A3.out).mono ?_); rintro e w' ⟨rfl, ⟨nd, rfl⟩⟩; refine ⟨_, rfl, ?_⟩) | (go_at_call 16; (with_reducible refine (bits_Sign.calls 255 8 t120 _ A9.out).mono ?_); rintro e w' ⟨rfl, ⟨nd, rfl⟩⟩) | (go_at_call 18; (with_reducible refine (bits_Fits.calls (-1) 1 true _ A11.out).mono ?_); rintro e w' ⟨rfl, ⟨nd, rfl⟩⟩) | (go_at_call 18; (with_reducible refine (bits_Fits.calls 1 1 true _ A13.out).mono ?_); rintro e w' ⟨rfl, ⟨nd, rfl⟩⟩))
                  go_ret
                  exact ⟨by first | rfl | (simp [errW_none, errW_some] <;> rfl) | (simp [*, errW_none, errW_some] <;> rfl), by repeat (first | (with_reducible first | exact HB.out | apply below_alloc | apply pw_below_drewN | apply below_drew1) | exact HB.out)⟩
                · replace c14 := Bool.eq_false_iff.mpr c14
                  subst c14
                  have H1 : ((bits_FitsU.f 1 1).bind fun t123 => (if t123 = true then ((bits_Bytes.f k 258 2).bind fun t124 => ((caponierref01_Same.f k t124 (([2, 1] : List Int))).bind fun t130 => (some t130))) else (some false))) = some r := by rw [if_neg (show ¬ (false = true) by decide)] at H; exact H
                  clear H
                  have H := H1
                  clear H1
                  replace H := Option.bind_eq_some_iff.mp H
                  obtain ⟨t123, A150, H⟩ := H
                  replace H : (if t123 = true then ((bits_Bytes.f k 258 2).bind fun t124 => ((caponierref01_Same.f k t124 (([2, 1] : List Int))).bind fun t130 => (some t130))) else (some false)) = some r := H
                  have A15 := Aside0.mk A150
                  clear A150
                  by_cases c16 : t123 = true
                  · subst c16
                    have H1 : ((bits_Bytes.f k 258 2).bind fun t124 => ((caponierref01_Same.f k t124 (([2, 1] : List Int))).bind fun t130 => (some t130))) = some r := by rw [if_pos rfl] at H; exact H
                    clear H
                    have H := H1
                    clear H1
                    replace H := Option.bind_eq_some_iff.mp H
                    obtain ⟨t124, A170, H⟩ := H
                    replace H : ((caponierref01_Same.f k t124 (([2, 1] : List Int))).bind fun t130 => (some t130)) = some r := H
                    have A17 := Aside0.mk A170
                    clear A170
                    obtain ⟨y127, hy127⟩ : ∃ y_ : List Int, y_ = (([2, 1] : List Int)) := ⟨_, rfl⟩
                    replace H : ((caponierref01_Same.f k t124 y127).bind fun t130 => (some t130)) = some r := by first | (rw [hy127]; with_reducible exact H) | (have H2_ := (Option.bind_some _ _).symm.trans H; rw [hy127]; with_reducible exact H2_) | (have H2_ := (Option.bind_some _ _).symm.trans H; with_reducible exact H2_) | with_reducible exact H | (rw [hy127]; exact H) | exact H
                    have Ny127 := Aside0.mk hy127
                    clear hy127
                    replace H := Option.bind_eq_some_iff.mp H
                    obtain ⟨t130, A180, H⟩ := H
                    replace H : (some t130) = some r := H
                    have A18 := Aside0.mk A180
                    clear A180
                    obtain rfl := Option.some.inj H
                    go_enter Try.func11, Try.ntmps11
                    go_wp2_with (first | ((with_reducible refine gate_callee (f := 12) rfl ?_); refine goesL_ (some 8) rfl rfl Try.func12 (by kernel_rfl) rfl #[.int .u64 43981, .int .i64 4, .int .i64 8] rfl (by (try simp only [List.map_toArray, List.map_cons, List.map_nil]); first | done | rfl | (simp only [List.length_drop, List.length_take]; rfl)) ?_; (with_reducible refine (bits_Field.calls 43981 4 8 t114 true _ A1.out).mono ?_); rintro e w' ⟨rfl, ⟨nd, rfl⟩⟩; refine ⟨_, rfl, ?_⟩) | ((with_reducible refine gate_callee (f := 14) rfl ?_); refine goesL_ (some 12) rfl rfl Try.func14 (by kernel_rfl) rfl #[.int .u64 43981, .int .i64 4, .int .i64 8, .int .u64 274] rfl (by (try simp only [List.map_toArray, List.map_cons, List.map_nil]); first | done | rfl | (simp only [List.length_drop, List.length_take]; rfl)) ?_; (with_reducible refine (bits_Put.calls 43981 4 8 274 t116 true _ A2.out).mono ?_); rintro e w' ⟨rfl, ⟨nd, rfl⟩⟩; refine ⟨_, rfl, ?_⟩) | ((with_reducible refine gate_callee (f := 12) rfl ?_); refine goesL_ (some 16) rfl rfl Try.func12 (by kernel_rfl) rfl #[.int .u64 1, .int .i64 60, .int .i64 5] rfl (by (try simp only [List.map_toArray, List.map_cons, List.map_nil]); first | done | rfl | (simp only [List.length_drop, List.length_take]; rfl)) ?_; (with_reducible refine (bits_Field.calls 1 60 5 t118 false _ A3.out).mono ?_); rintro e w' ⟨rfl, ⟨nd, rfl⟩⟩; refine ⟨_, rfl, ?_⟩) | (go_at_call 16; (with_reducible refine (bits_Sign.calls 255 8 t120 _ A9.out).mono ?_); rintro e w' ⟨rfl, ⟨nd, rfl⟩⟩) | (go_at_call 18; (with_reducible refine (bits_Fits.calls (-1) 1 true _ A11.out).mono ?_); rintro e w' ⟨rfl, ⟨nd, rfl⟩⟩) | (go_at_call 18; (with_reducible refine (bits_Fits.calls 1 1 false _ A13.out).mono ?_); rintro e w' ⟨rfl, ⟨nd, rfl⟩⟩) | (go_at_call 20; (with_reducible refine (bits_FitsU.calls 1 1 true _ A15.out).mono ?_); rintro e w' ⟨rfl, ⟨nd, rfl⟩⟩) | (go_at_call 22; (with_reducible refine (bits_Bytes.calls k 258 2 t124 _ A17.out).mono ?_); rintro e w19 ⟨v125, rfl, ho0, hb⟩; have n0_ := Aside0.mk (Kd.R_lower ho0 (below_size (by repeat (first | (with_reducible first | exact HB.out | apply below_alloc | apply pw_below_drewN | apply below_drew1) | exact HB.out)))); have n1_ := Aside0.mk (below_step (by repeat (first | (with_reducible first | exact HB.out | apply below_alloc | apply pw_below_drewN | apply below_drew1) | exact HB.out)) hb); clear HB; have HO126 := n0_; have HB := n1_; clear n0_ n1_; (try clear hb); (try clear hb2); (try clear hk); (try clear hi); (try clear ho0)) | ((with_reducible refine gate_dst (N := 51) rfl ?_); (try (refine gate_guard (by rfl) ?_; dsimp only)); refine Kd.R_lit (Kd.int .u8) _ 5 ?hg (N := 51) ?hd (xs := ([2, 1] : List Int)) (inner := [.int .u8 2, .int .u8 1]) (ok := fun _ => True) (okp := fun _ => True) ?hr ?hp (fun _ hk => hk) trivial (Below.refl _ _) (Nat.le_refl _) (by simp) ?_; (case hd => rfl); (case hg => rfl); (case hr => first | (go_simp; done) | (go_simp; rfl)); (case hp => exact (Reps.one (show Kd.M (Kd.int .u8) _ _ _ 2 [.int .u8 2] from rfl) (Reps.one (show Kd.M (Kd.int .u8) _ _ _ 1 [.int .u8 1] from rfl) (Reps.none _ _)))); intro v128 w20 ho21 hb hg_ hnew_; clear hg_ hnew_; (first | rw [← Ny127.out] at ho21 | (simp only [Int.reduceToNat] at ho21; rw [← Ny127.out] at ho21)); have n0_ := Aside0.mk (Kd.R_elder' (by (with_reducible repeat (first | apply Kd.R_alloc | apply Kd.R_drewN | apply Kd.R_drew)); exact HO126.out) (Kd.R_base ho21) hb); have n1_ := Aside0.mk (Kd.R_lower (Kd.R_new' ho21 (Kd.R_lt (by (with_reducible repeat (first | apply Kd.R_alloc | apply Kd.R_drewN | apply Kd.R_drew)); exact HO126.out))) (below_size (by repeat (first | (with_reducible first | exact HB.out | apply below_alloc | apply pw_below_drewN | apply below_drew1) | exact HB.out)))); have n2_ := Aside0.mk (below_step (by repeat (first | (with_reducible first | exact HB.out | apply below_alloc | apply pw_below_drewN | apply below_drew1) | exact HB.out)) hb); clear HO126; clear HB; have HO126 := n0_; have HO129 := n1_; have HB := n2_; clear n0_ n1_ n2_; clear hb ho21; obtain ⟨Ao22, co22, eo22⟩ := Kd.R_slice HO126.out; subst eo22; obtain ⟨Ao23, co23, eo23⟩ := Kd.R_slice HO129.out; subst eo23) | (go_at_call 25; (with_reducible refine (caponierref01_Same.calls k _ _ t124 _ _ y127 t130 _ ?side1 ?side2 ?side3 ?side4 A18.out).mono ?_); (case side1 => repeat (first | exact (Kd.R_reads' HO126.out).2.2 | (with_reducible refine Kd.C_alloc ?_ _) | (with_reducible refine Kd.C_drewN ?_ _) | (with_reducible refine Kd.C_drew ?_))); (case side2 => exact (Kd.R_reads' HO126.out).2.1); (case side3 => repeat (first | exact (Kd.R_reads' HO129.out).2.2 | (with_reducible refine Kd.C_alloc ?_ _) | (with_reducible refine Kd.C_drewN ?_ _) | (with_reducible refine Kd.C_drew ?_))); (case side4 => exact (Kd.R_reads' HO129.out).2.1); rintro e w' ⟨rfl, ⟨nd, rfl⟩⟩))
                    go_ret
                    exact ⟨by first | rfl | (simp [errW_none, errW_some] <;> rfl) | (simp [*, errW_none, errW_some] <;> rfl), by repeat (first | (with_reducible first | exact HB.out | apply below_alloc | apply pw_below_drewN | apply below_drew1) | exact HB.out)⟩
                  · replace c16 := Bool.eq_false_iff.mpr c16
                    subst c16
                    have H1 : (some false) = some r := by rw [if_neg (show ¬ (false = true) by decide)] at H; exact H
                    clear H
                    have H := H1
                    clear H1
                    obtain rfl := Option.some.inj H
                    go_enter Try.func11, Try.ntmps11
                    go_wp2_with (first | ((with_reducible refine gate_callee (f := 12) rfl ?_); refine goesL_ (some 8) rfl rfl Try.func12 (by kernel_rfl) rfl #[.int .u64 43981, .int .i64 4, .int .i64 8] rfl (by (try simp only [List.map_toArray, List.map_cons, List.map_nil]); first | done | rfl | (simp only [List.length_drop, List.length_take]; rfl)) ?_; (with_reducible refine (bits_Field.calls 43981 4 8 t114 true _ A1.out).mono ?_); rintro e w' ⟨rfl, ⟨nd, rfl⟩⟩; refine ⟨_, rfl, ?_⟩) | ((with_reducible refine gate_callee (f := 14) rfl ?_); refine goesL_ (some 12) rfl rfl Try.func14 (by kernel_rfl) rfl #[.int .u64 43981, .int .i64 4, .int .i64 8, .int .u64 274] rfl (by (try simp only [List.map_toArray, List.map_cons, List.map_nil]); first | done | rfl | (simp only [List.length_drop, List.length_take]; rfl)) ?_; (with_reducible refine (bits_Put.calls 43981 4 8 274 t116 true _ A2.out).mono ?_); rintro e w' ⟨rfl, ⟨nd, rfl⟩⟩; refine ⟨_, rfl, ?_⟩) | ((with_reducible refine gate_callee (f := 12) rfl ?_); refine goesL_ (some 16) rfl rfl Try.func12 (by kernel_rfl) rfl #[.int .u64 1, .int .i64 60, .int .i64 5] rfl (by (try simp only [List.map_toArray, List.map_cons, List.map_nil]); first | done | rfl | (simp only [List.length_drop, List.length_take]; rfl)) ?_; (with_reducible refine (bits_Field.calls 1 60 5 t118 false _ A3.out).mono ?_); rintro e w' ⟨rfl, ⟨nd, rfl⟩⟩; refine ⟨_, rfl, ?_⟩) | (go_at_call 16; (with_reducible refine (bits_Sign.calls 255 8 t120 _ A9.out).mono ?_); rintro e w' ⟨rfl, ⟨nd, rfl⟩⟩) | (go_at_call 18; (with_reducible refine (bits_Fits.calls (-1) 1 true _ A11.out).mono ?_); rintro e w' ⟨rfl, ⟨nd, rfl⟩⟩) | (go_at_call 18; (with_reducible refine (bits_Fits.calls 1 1 false _ A13.out).mono ?_); rintro e w' ⟨rfl, ⟨nd, rfl⟩⟩) | (go_at_call 20; (with_reducible refine (bits_FitsU.calls 1 1 false _ A15.out).mono ?_); rintro e w' ⟨rfl, ⟨nd, rfl⟩⟩))
                    go_ret
                    exact ⟨by first | rfl | (simp [errW_none, errW_some] <;> rfl) | (simp [*, errW_none, errW_some] <;> rfl), by repeat (first | (with_reducible first | exact HB.out | apply below_alloc | apply pw_below_drewN | apply below_drew1) | exact HB.out)⟩
              · replace c12 := Bool.eq_false_iff.mpr c12
                subst c12
                have H1 : (some false) = some r := by rw [if_neg (show ¬ (false = true) by decide)] at H; exact H
                clear H
                have H := H1
                clear H1
                obtain rfl := Option.some.inj H
                go_enter Try.func11, Try.ntmps11
                go_wp2_with (first | ((with_reducible refine gate_callee (f := 12) rfl ?_); refine goesL_ (some 8) rfl rfl Try.func12 (by kernel_rfl) rfl #[.int .u64 43981, .int .i64 4, .int .i64 8] rfl (by (try simp only [List.map_toArray, List.map_cons, List.map_nil]); first | done | rfl | (simp only [List.length_drop, List.length_take]; rfl)) ?_; (with_reducible refine (bits_Field.calls 43981 4 8 t114 true _ A1.out).mono ?_); rintro e w' ⟨rfl, ⟨nd, rfl⟩⟩; refine ⟨_, rfl, ?_⟩) | ((with_reducible refine gate_callee (f := 14) rfl ?_); refine goesL_ (some 12) rfl rfl Try.func14 (by kernel_rfl) rfl #[.int .u64 43981, .int .i64 4, .int .i64 8, .int .u64 274] rfl (by (try simp only [List.map_toArray, List.map_cons, List.map_nil]); first | done | rfl | (simp only [List.length_drop, List.length_take]; rfl)) ?_; (with_reducible refine (bits_Put.calls 43981 4 8 274 t116 true _ A2.out).mono ?_); rintro e w' ⟨rfl, ⟨nd, rfl⟩⟩; refine ⟨_, rfl, ?_⟩) | ((with_reducible refine gate_callee (f := 12) rfl ?_); refine goesL_ (some 16) rfl rfl Try.func12 (by kernel_rfl) rfl #[.int .u64 1, .int .i64 60, .int .i64 5] rfl (by (try simp only [List.map_toArray, List.map_cons, List.map_nil]); first | done | rfl | (simp only [List.length_drop, List.length_take]; rfl)) ?_; (with_reducible refine (bits_Field.calls 1 60 5 t118 false _ A3.out).mono ?_); rintro e w' ⟨rfl, ⟨nd, rfl⟩⟩; refine ⟨_, rfl, ?_⟩) | (go_at_call 16; (with_reducible refine (bits_Sign.calls 255 8 t120 _ A9.out).mono ?_); rintro e w' ⟨rfl, ⟨nd, rfl⟩⟩) | (go_at_call 18; (with_reducible refine (bits_Fits.calls (-1) 1 false _ A11.out).mono ?_); rintro e w' ⟨rfl, ⟨nd, rfl⟩⟩))
                go_ret
                exact ⟨by first | rfl | (simp [errW_none, errW_some] <;> rfl) | (simp [*, errW_none, errW_some] <;> rfl), by repeat (first | (with_reducible first | exact HB.out | apply below_alloc | apply pw_below_drewN | apply below_drew1) | exact HB.out)⟩
            · rw [if_neg c10] at H
              have c10b0 : (t120 == (-1)) = false := beq_eq_false_iff_ne.mpr c10
              have c10b1 : (t120 != (-1)) = true := bne_iff_ne.mpr c10
              obtain rfl := Option.some.inj H
              go_enter Try.func11, Try.ntmps11
              go_wp2_with (first | ((with_reducible refine gate_callee (f := 12) rfl ?_); refine goesL_ (some 8) rfl rfl Try.func12 (by kernel_rfl) rfl #[.int .u64 43981, .int .i64 4, .int .i64 8] rfl (by (try simp only [List.map_toArray, List.map_cons, List.map_nil]); first | done | rfl | (simp only [List.length_drop, List.length_take]; rfl)) ?_; (with_reducible refine (bits_Field.calls 43981 4 8 t114 true _ A1.out).mono ?_); rintro e w' ⟨rfl, ⟨nd, rfl⟩⟩; refine ⟨_, rfl, ?_⟩) | ((with_reducible refine gate_callee (f := 14) rfl ?_); refine goesL_ (some 12) rfl rfl Try.func14 (by kernel_rfl) rfl #[.int .u64 43981, .int .i64 4, .int .i64 8, .int .u64 274] rfl (by (try simp only [List.map_toArray, List.map_cons, List.map_nil]); first | done | rfl | (simp only [List.length_drop, List.length_take]; rfl)) ?_; (with_reducible refine (bits_Put.calls 43981 4 8 274 t116 true _ A2.out).mono ?_); rintro e w' ⟨rfl, ⟨nd, rfl⟩⟩; refine ⟨_, rfl, ?_⟩) | ((with_reducible refine gate_callee (f := 12) rfl ?_); refine goesL_ (some 16) rfl rfl Try.func12 (by kernel_rfl) rfl #[.int .u64 1, .int .i64 60, .int .i64 5] rfl (by (try simp only [List.map_toArray, List.map_cons, List.map_nil]); first | done | rfl | (simp only [List.length_drop, List.length_take]; rfl)) ?_; (with_reducible refine (bits_Field.calls 1 60 5 t118 false _ A3.out).mono ?_); rintro e w' ⟨rfl, ⟨nd, rfl⟩⟩; refine ⟨_, rfl, ?_⟩) | (go_at_call 16; (with_reducible refine (bits_Sign.calls 255 8 t120 _ A9.out).mono ?_); rintro e w' ⟨rfl, ⟨nd, rfl⟩⟩))
              go_ret
              exact ⟨by first | rfl | (simp [errW_none, errW_some] <;> rfl) | (simp [*, errW_none, errW_some] <;> rfl), by repeat (first | (with_reducible first | exact HB.out | apply below_alloc | apply pw_below_drewN | apply below_drew1) | exact HB.out)⟩
        · replace c7 := Bool.eq_false_iff.mpr c7
          subst c7
          have H1 : (some false) = some r := by rw [if_neg (show ¬ (false = true) by decide)] at H; exact H
          clear H
          have H := H1
          clear H1
          obtain rfl := Option.some.inj H
          go_enter Try.func11, Try.ntmps11
          go_wp2_with (first | ((with_reducible refine gate_callee (f := 12) rfl ?_); refine goesL_ (some 8) rfl rfl Try.func12 (by kernel_rfl) rfl #[.int .u64 43981, .int .i64 4, .int .i64 8] rfl (by (try simp only [List.map_toArray, List.map_cons, List.map_nil]); first | done | rfl | (simp only [List.length_drop, List.length_take]; rfl)) ?_; (with_reducible refine (bits_Field.calls 43981 4 8 t114 true _ A1.out).mono ?_); rintro e w' ⟨rfl, ⟨nd, rfl⟩⟩; refine ⟨_, rfl, ?_⟩) | ((with_reducible refine gate_callee (f := 14) rfl ?_); refine goesL_ (some 12) rfl rfl Try.func14 (by kernel_rfl) rfl #[.int .u64 43981, .int .i64 4, .int .i64 8, .int .u64 274] rfl (by (try simp only [List.map_toArray, List.map_cons, List.map_nil]); first | done | rfl | (simp only [List.length_drop, List.length_take]; rfl)) ?_; (with_reducible refine (bits_Put.calls 43981 4 8 274 t116 false _ A2.out).mono ?_); rintro e w' ⟨rfl, ⟨nd, rfl⟩⟩; refine ⟨_, rfl, ?_⟩) | ((with_reducible refine gate_callee (f := 12) rfl ?_); refine goesL_ (some 16) rfl rfl Try.func12 (by kernel_rfl) rfl #[.int .u64 1, .int .i64 60, .int .i64 5] rfl (by (try simp only [List.map_toArray, List.map_cons, List.map_nil]); first | done | rfl | (simp only [List.length_drop, List.length_take]; rfl)) ?_; (with_reducible refine (bits_Field.calls 1 60 5 t118 t119 _ A3.out).mono ?_); rintro e w' ⟨rfl, ⟨nd, rfl⟩⟩; refine ⟨_, rfl, ?_⟩))
          go_ret
          exact ⟨by first | rfl | (simp [errW_none, errW_some] <;> rfl) | (simp [*, errW_none, errW_some] <;> rfl), by repeat (first | (with_reducible first | exact HB.out | apply below_alloc | apply pw_below_drewN | apply below_drew1) | exact HB.out)⟩
      · rw [if_neg c6] at H
        have c6b0 : (t116 == 41261) = false := beq_eq_false_iff_ne.mpr c6
        have c6b1 : (t116 != 41261) = true := bne_iff_ne.mpr c6
        obtain rfl := Option.some.inj H
        go_enter Try.func11, Try.ntmps11
        go_wp2_with (first | ((with_reducible refine gate_callee (f := 12) rfl ?_); refine goesL_ (some 8) rfl rfl Try.func12 (by kernel_rfl) rfl #[.int .u64 43981, .int .i64 4, .int .i64 8] rfl (by (try simp only [List.map_toArray, List.map_cons, List.map_nil]); first | done | rfl | (simp only [List.length_drop, List.length_take]; rfl)) ?_; (with_reducible refine (bits_Field.calls 43981 4 8 t114 true _ A1.out).mono ?_); rintro e w' ⟨rfl, ⟨nd, rfl⟩⟩; refine ⟨_, rfl, ?_⟩) | ((with_reducible refine gate_callee (f := 14) rfl ?_); refine goesL_ (some 12) rfl rfl Try.func14 (by kernel_rfl) rfl #[.int .u64 43981, .int .i64 4, .int .i64 8, .int .u64 274] rfl (by (try simp only [List.map_toArray, List.map_cons, List.map_nil]); first | done | rfl | (simp only [List.length_drop, List.length_take]; rfl)) ?_; (with_reducible refine (bits_Put.calls 43981 4 8 274 t116 t117 _ A2.out).mono ?_); rintro e w' ⟨rfl, ⟨nd, rfl⟩⟩; refine ⟨_, rfl, ?_⟩) | ((with_reducible refine gate_callee (f := 12) rfl ?_); refine goesL_ (some 16) rfl rfl Try.func12 (by kernel_rfl) rfl #[.int .u64 1, .int .i64 60, .int .i64 5] rfl (by (try simp only [List.map_toArray, List.map_cons, List.map_nil]); first | done | rfl | (simp only [List.length_drop, List.length_take]; rfl)) ?_; (with_reducible refine (bits_Field.calls 1 60 5 t118 t119 _ A3.out).mono ?_); rintro e w' ⟨rfl, ⟨nd, rfl⟩⟩; refine ⟨_, rfl, ?_⟩))
        go_ret
        exact ⟨by first | rfl | (simp [errW_none, errW_some] <;> rfl) | (simp [*, errW_none, errW_some] <;> rfl), by repeat (first | (with_reducible first | exact HB.out | apply below_alloc | apply pw_below_drewN | apply below_drew1) | exact HB.out)⟩
    · replace c5 := Bool.eq_false_iff.mpr c5
      subst c5
      have H1 : (some false) = some r := by rw [if_neg (show ¬ (false = true) by decide)] at H; exact H
      clear H
      have H := H1
      clear H1
      obtain rfl := Option.some.inj H
      go_enter Try.func11, Try.ntmps11
      go_wp2_with (first | ((with_reducible refine gate_callee (f := 12) rfl ?_); refine goesL_ (some 8) rfl rfl Try.func12 (by kernel_rfl) rfl #[.int .u64 43981, .int .i64 4, .int .i64 8] rfl (by (try simp only [List.map_toArray, List.map_cons, List.map_nil]); first | done | rfl | (simp only [List.length_drop, List.length_take]; rfl)) ?_; (with_reducible refine (bits_Field.calls 43981 4 8 t114 false _ A1.out).mono ?_); rintro e w' ⟨rfl, ⟨nd, rfl⟩⟩; refine ⟨_, rfl, ?_⟩) | ((with_reducible refine gate_callee (f := 14) rfl ?_); refine goesL_ (some 12) rfl rfl Try.func14 (by kernel_rfl) rfl #[.int .u64 43981, .int .i64 4, .int .i64 8, .int .u64 274] rfl (by (try simp only [List.map_toArray, List.map_cons, List.map_nil]); first | done | rfl | (simp only [List.length_drop, List.length_take]; rfl)) ?_; (with_reducible refine (bits_Put.calls 43981 4 8 274 t116 t117 _ A2.out).mono ?_); rintro e w' ⟨rfl, ⟨nd, rfl⟩⟩; refine ⟨_, rfl, ?_⟩) | ((with_reducible refine gate_callee (f := 12) rfl ?_); refine goesL_ (some 16) rfl rfl Try.func12 (by kernel_rfl) rfl #[.int .u64 1, .int .i64 60, .int .i64 5] rfl (by (try simp only [List.map_toArray, List.map_cons, List.map_nil]); first | done | rfl | (simp only [List.length_drop, List.length_take]; rfl)) ?_; (with_reducible refine (bits_Field.calls 1 60 5 t118 t119 _ A3.out).mono ?_); rintro e w' ⟨rfl, ⟨nd, rfl⟩⟩; refine ⟨_, rfl, ?_⟩))
      go_ret
      exact ⟨by first | rfl | (simp [errW_none, errW_some] <;> rfl) | (simp [*, errW_none, errW_some] <;> rfl), by repeat (first | (with_reducible first | exact HB.out | apply below_alloc | apply pw_below_drewN | apply below_drew1) | exact HB.out)⟩
  · rw [if_neg c4] at H
    have c4b0 : (t114 == 188) = false := beq_eq_false_iff_ne.mpr c4
    have c4b1 : (t114 != 188) = true := bne_iff_ne.mpr c4
    obtain rfl := Option.some.inj H
    go_enter Try.func11, Try.ntmps11
    go_wp2_with (first | ((with_reducible refine gate_callee (f := 12) rfl ?_); refine goesL_ (some 8) rfl rfl Try.func12 (by kernel_rfl) rfl #[.int .u64 43981, .int .i64 4, .int .i64 8] rfl (by (try simp only [List.map_toArray, List.map_cons, List.map_nil]); first | done | rfl | (simp only [List.length_drop, List.length_take]; rfl)) ?_; (with_reducible refine (bits_Field.calls 43981 4 8 t114 t115 _ A1.out).mono ?_); rintro e w' ⟨rfl, ⟨nd, rfl⟩⟩; refine ⟨_, rfl, ?_⟩) | ((with_reducible refine gate_callee (f := 14) rfl ?_); refine goesL_ (some 12) rfl rfl Try.func14 (by kernel_rfl) rfl #[.int .u64 43981, .int .i64 4, .int .i64 8, .int .u64 274] rfl (by (try simp only [List.map_toArray, List.map_cons, List.map_nil]); first | done | rfl | (simp only [List.length_drop, List.length_take]; rfl)) ?_; (with_reducible refine (bits_Put.calls 43981 4 8 274 t116 t117 _ A2.out).mono ?_); rintro e w' ⟨rfl, ⟨nd, rfl⟩⟩; refine ⟨_, rfl, ?_⟩) | ((with_reducible refine gate_callee (f := 12) rfl ?_); refine goesL_ (some 16) rfl rfl Try.func12 (by kernel_rfl) rfl #[.int .u64 1, .int .i64 60, .int .i64 5] rfl (by (try simp only [List.map_toArray, List.map_cons, List.map_nil]); first | done | rfl | (simp only [List.length_drop, List.length_take]; rfl)) ?_; (with_reducible refine (bits_Field.calls 1 60 5 t118 t119 _ A3.out).mono ?_); rintro e w' ⟨rfl, ⟨nd, rfl⟩⟩; refine ⟨_, rfl, ?_⟩))
    go_ret
    exact ⟨by first | rfl | (simp [errW_none, errW_some] <;> rfl) | (simp [*, errW_none, errW_some] <;> rfl), by repeat (first | (with_reducible first | exact HB.out | apply below_alloc | apply pw_below_drewN | apply below_drew1) | exact HB.out)⟩

/-! ### caponierlaw01_BitsOnes: function 8 -/
def caponierlaw01_BitsOnes.f (k : Nat) (a0 : Int) (a1 : Int) (a2 : Int) : Option (Bool) := (caponierlaw01_awake.f k).bind fun t131 => (if t131 = true then ((bits_Field.f a0 0 (wrap64 (1 + (Int.tmod (wrap64 (a2)) 63)))).bind fun bt132 => ((bits_Put.f a1 0 (wrap64 (1 + (Int.tmod (wrap64 (a2)) 63))) a0).bind fun bt134 => (if bt132.2 = true then (if bt134.2 = true then (if 0 ≤ (IntKind.u64.wrap (wrap64 (1 + (Int.tmod (wrap64 (a2)) 63)))) then (if (shl .u64 1 (IntKind.u64.wrap (wrap64 (1 + (Int.tmod (wrap64 (a2)) 63))))) = 0 then (none) else (if bt132.1 = (Int.tmod a0 (shl .u64 1 (IntKind.u64.wrap (wrap64 (1 + (Int.tmod (wrap64 (a2)) 63)))))) then ((bits_Sign.f bt134.1 (wrap64 (1 + (Int.tmod (wrap64 (a2)) 63)))).bind fun t136 => ((bits_Sign.f a0 (wrap64 (1 + (Int.tmod (wrap64 (a2)) 63)))).bind fun t137 => (if t136 = t137 then (some ((shr .u64 bt134.1 (IntKind.u64.wrap (wrap64 (1 + (Int.tmod (wrap64 (a2)) 63))))) == (shr .u64 a1 (IntKind.u64.wrap (wrap64 (1 + (Int.tmod (wrap64 (a2)) 63))))))) else (some false)))) else (some false))) else (none)) else (some false)) else (some false)))) else (some false))
theorem caponierlaw01_BitsOnes.mono : ∀ a0 a1 a2 k, LeO (caponierlaw01_BitsOnes.f k a0 a1 a2) (caponierlaw01_BitsOnes.f (k + 1) a0 a1 a2) := by
  intro a0 a1 a2 k
  unfold caponierlaw01_BitsOnes.f
  repeat' first
      | (with_reducible exact caponierlaw01_awake.mono _)
      | (with_reducible exact LeO.refl _)
      | (with_reducible exact LeO.none _)
      | (with_reducible refine LeO.ite ?_ ?_)
      | (with_reducible refine LeO.bind ?_ (fun _ => ?_))
      | exact caponierlaw01_awake.mono _
      | exact LeO.none _
      | refine LeO.ite ?_ ?_
      | refine LeO.bind ?_ (fun _ => ?_)
set_option maxHeartbeats 8000000 in
set_option maxRecDepth 100000 in
theorem caponierlaw01_BitsOnes.calls (k : Nat) (a0 : Int) (a1 : Int) (a2 : Int) (r : Bool) (w : World) (h : caponierlaw01_BitsOnes.f k a0 a1 a2 = some r) :
    Calls Try.prog 8 #[.int .u64 a0, .int .u64 a1, .int .u8 a2] w fun e w' => e = .returned (.bool r) ∧ Below w.heap.size w w' := by
  have HB := Aside0.mk (Below.refl w.heap.size w)
  have H : ((caponierlaw01_awake.f k).bind fun t131 => (if t131 = true then ((bits_Field.f a0 0 (wrap64 (1 + (Int.tmod (wrap64 (a2)) 63)))).bind fun bt132 => ((bits_Put.f a1 0 (wrap64 (1 + (Int.tmod (wrap64 (a2)) 63))) a0).bind fun bt134 => (if bt132.2 = true then (if bt134.2 = true then (if 0 ≤ (IntKind.u64.wrap (wrap64 (1 + (Int.tmod (wrap64 (a2)) 63)))) then (if (shl .u64 1 (IntKind.u64.wrap (wrap64 (1 + (Int.tmod (wrap64 (a2)) 63))))) = 0 then (none) else (if bt132.1 = (Int.tmod a0 (shl .u64 1 (IntKind.u64.wrap (wrap64 (1 + (Int.tmod (wrap64 (a2)) 63)))))) then ((bits_Sign.f bt134.1 (wrap64 (1 + (Int.tmod (wrap64 (a2)) 63)))).bind fun t136 => ((bits_Sign.f a0 (wrap64 (1 + (Int.tmod (wrap64 (a2)) 63)))).bind fun t137 => (if t136 = t137 then (some ((shr .u64 bt134.1 (IntKind.u64.wrap (wrap64 (1 + (Int.tmod (wrap64 (a2)) 63))))) == (shr .u64 a1 (IntKind.u64.wrap (wrap64 (1 + (Int.tmod (wrap64 (a2)) 63))))))) else (some false)))) else (some false))) else (none)) else (some false)) else (some false)))) else (some false))) = some r := h
  clear h
  replace H := Option.bind_eq_some_iff.mp H
  obtain ⟨t131, A40, H⟩ := H
  replace H : (if t131 = true then ((bits_Field.f a0 0 (wrap64 (1 + (Int.tmod (wrap64 (a2)) 63)))).bind fun bt132 => ((bits_Put.f a1 0 (wrap64 (1 + (Int.tmod (wrap64 (a2)) 63))) a0).bind fun bt134 => (if bt132.2 = true then (if bt134.2 = true then (if 0 ≤ (IntKind.u64.wrap (wrap64 (1 + (Int.tmod (wrap64 (a2)) 63)))) then (if (shl .u64 1 (IntKind.u64.wrap (wrap64 (1 + (Int.tmod (wrap64 (a2)) 63))))) = 0 then (none) else (if bt132.1 = (Int.tmod a0 (shl .u64 1 (IntKind.u64.wrap (wrap64 (1 + (Int.tmod (wrap64 (a2)) 63)))))) then ((bits_Sign.f bt134.1 (wrap64 (1 + (Int.tmod (wrap64 (a2)) 63)))).bind fun t136 => ((bits_Sign.f a0 (wrap64 (1 + (Int.tmod (wrap64 (a2)) 63)))).bind fun t137 => (if t136 = t137 then (some ((shr .u64 bt134.1 (IntKind.u64.wrap (wrap64 (1 + (Int.tmod (wrap64 (a2)) 63))))) == (shr .u64 a1 (IntKind.u64.wrap (wrap64 (1 + (Int.tmod (wrap64 (a2)) 63))))))) else (some false)))) else (some false))) else (none)) else (some false)) else (some false)))) else (some false)) = some r := H
  have A4 := Aside0.mk A40
  clear A40
  by_cases c5 : t131 = true
  · subst c5
    have H1 : ((bits_Field.f a0 0 (wrap64 (1 + (Int.tmod (wrap64 (a2)) 63)))).bind fun bt132 => ((bits_Put.f a1 0 (wrap64 (1 + (Int.tmod (wrap64 (a2)) 63))) a0).bind fun bt134 => (if bt132.2 = true then (if bt134.2 = true then (if 0 ≤ (IntKind.u64.wrap (wrap64 (1 + (Int.tmod (wrap64 (a2)) 63)))) then (if (shl .u64 1 (IntKind.u64.wrap (wrap64 (1 + (Int.tmod (wrap64 (a2)) 63))))) = 0 then (none) else (if bt132.1 = (Int.tmod a0 (shl .u64 1 (IntKind.u64.wrap (wrap64 (1 + (Int.tmod (wrap64 (a2)) 63)))))) then ((bits_Sign.f bt134.1 (wrap64 (1 + (Int.tmod (wrap64 (a2)) 63)))).bind fun t136 => ((bits_Sign.f a0 (wrap64 (1 + (Int.tmod (wrap64 (a2)) 63)))).bind fun t137 => (if t136 = t137 then (some ((shr .u64 bt134.1 (IntKind.u64.wrap (wrap64 (1 + (Int.tmod (wrap64 (a2)) 63))))) == (shr .u64 a1 (IntKind.u64.wrap (wrap64 (1 + (Int.tmod (wrap64 (a2)) 63))))))) else (some false)))) else (some false))) else (none)) else (some false)) else (some false)))) = some r := by rw [if_pos rfl] at H; exact H
    clear H
    have H := H1
    clear H1
    replace H := Option.bind_eq_some_iff.mp H
    obtain ⟨⟨t132, t133⟩, A60, H⟩ := H
    replace H : ((bits_Put.f a1 0 (wrap64 (1 + (Int.tmod (wrap64 (a2)) 63))) a0).bind fun bt134 => (if t133 = true then (if bt134.2 = true then (if 0 ≤ (IntKind.u64.wrap (wrap64 (1 + (Int.tmod (wrap64 (a2)) 63)))) then (if (shl .u64 1 (IntKind.u64.wrap (wrap64 (1 + (Int.tmod (wrap64 (a2)) 63))))) = 0 then (none) else (if t132 = (Int.tmod a0 (shl .u64 1 (IntKind.u64.wrap (wrap64 (1 + (Int.tmod (wrap64 (a2)) 63)))))) then ((bits_Sign.f bt134.1 (wrap64 (1 + (Int.tmod (wrap64 (a2)) 63)))).bind fun t136 => ((bits_Sign.f a0 (wrap64 (1 + (Int.tmod (wrap64 (a2)) 63)))).bind fun t137 => (if t136 = t137 then (some ((shr .u64 bt134.1 (IntKind.u64.wrap (wrap64 (1 + (Int.tmod (wrap64 (a2)) 63))))) == (shr .u64 a1 (IntKind.u64.wrap (wrap64 (1 + (Int.tmod (wrap64 (a2)) 63))))))) else (some false)))) else (some false))) else (none)) else (some false)) else (some false))) = some r := H
    have A6 := Aside0.mk A60
    clear A60
    replace H := Option.bind_eq_some_iff.mp H
    obtain ⟨⟨t134, t135⟩, A70, H⟩ := H
    replace H : (if t133 = true then (if t135 = true then (if 0 ≤ (IntKind.u64.wrap (wrap64 (1 + (Int.tmod (wrap64 (a2)) 63)))) then (if (shl .u64 1 (IntKind.u64.wrap (wrap64 (1 + (Int.tmod (wrap64 (a2)) 63))))) = 0 then (none) else (if t132 = (Int.tmod a0 (shl .u64 1 (IntKind.u64.wrap (wrap64 (1 + (Int.tmod (wrap64 (a2)) 63)))))) then ((bits_Sign.f t134 (wrap64 (1 + (Int.tmod (wrap64 (a2)) 63)))).bind fun t136 => ((bits_Sign.f a0 (wrap64 (1 + (Int.tmod (wrap64 (a2)) 63)))).bind fun t137 => (if t136 = t137 then (some ((shr .u64 t134 (IntKind.u64.wrap (wrap64 (1 + (Int.tmod (wrap64 (a2)) 63))))) == (shr .u64 a1 (IntKind.u64.wrap (wrap64 (1 + (Int.tmod (wrap64 (a2)) 63))))))) else (some false)))) else (some false))) else (none)) else (some false)) else (some false)) = some r := H
    have A7 := Aside0.mk A70
    clear A70
    by_cases c8 : t133 = true
    · subst c8
      have H1 : (if t135 = true then (if 0 ≤ (IntKind.u64.wrap (wrap64 (1 + (Int.tmod (wrap64 (a2)) 63)))) then (if (shl .u64 1 (IntKind.u64.wrap (wrap64 (1 + (Int.tmod (wrap64 (a2)) 63))))) = 0 then (none) else (if t132 = (Int.tmod a0 (shl .u64 1 (IntKind.u64.wrap (wrap64 (1 + (Int.tmod (wrap64 (a2)) 63)))))) then ((bits_Sign.f t134 (wrap64 (1 + (Int.tmod (wrap64 (a2)) 63)))).bind fun t136 => ((bits_Sign.f a0 (wrap64 (1 + (Int.tmod (wrap64 (a2)) 63)))).bind fun t137 => (if t136 = t137 then (some ((shr .u64 t134 (IntKind.u64.wrap (wrap64 (1 + (Int.tmod (wrap64 (a2)) 63))))) == (shr .u64 a1 (IntKind.u64.wrap (wrap64 (1 + (Int.tmod (wrap64 (a2)) 63))))))) else (some false)))) else (some false))) else (none)) else (some false)) = some r := by rw [if_pos rfl] at H; exact H
      clear H
      have H := H1
      clear H1
      by_cases c9 : t135 = true
      · subst c9
        have H1 : (if 0 ≤ (IntKind.u64.wrap (wrap64 (1 + (Int.tmod (wrap64 (a2)) 63)))) then (if (shl .u64 1 (IntKind.u64.wrap (wrap64 (1 + (Int.tmod (wrap64 (a2)) 63))))) = 0 then (none) else (if t132 = (Int.tmod a0 (shl .u64 1 (IntKind.u64.wrap (wrap64 (1 + (Int.tmod (wrap64 (a2)) 63)))))) then ((bits_Sign.f t134 (wrap64 (1 + (Int.tmod (wrap64 (a2)) 63)))).bind fun t136 => ((bits_Sign.f a0 (wrap64 (1 + (Int.tmod (wrap64 (a2)) 63)))).bind fun t137 => (if t136 = t137 then (some ((shr .u64 t134 (IntKind.u64.wrap (wrap64 (1 + (Int.tmod (wrap64 (a2)) 63))))) == (shr .u64 a1 (IntKind.u64.wrap (wrap64 (1 + (Int.tmod (wrap64 (a2)) 63))))))) else (some false)))) else (some false))) else (none)) = some r := by rw [if_pos rfl] at H; exact H
        clear H
        have H := H1
        clear H1
        obtain ⟨ji10, hji10⟩ : ∃ j_ : Int, (IntKind.u64.wrap (wrap64 (1 + (Int.tmod (wrap64 (a2)) 63)))) = j_ := ⟨_, rfl⟩
        replace H : (if 0 ≤ (ji10) then (if (shl .u64 1 (ji10)) = 0 then (none) else (if t132 = (Int.tmod a0 (shl .u64 1 (ji10))) then ((bits_Sign.f t134 (wrap64 (1 + (Int.tmod (wrap64 (a2)) 63)))).bind fun t136 => ((bits_Sign.f a0 (wrap64 (1 + (Int.tmod (wrap64 (a2)) 63)))).bind fun t137 => (if t136 = t137 then (some ((shr .u64 t134 (ji10)) == (shr .u64 a1 (ji10)))) else (some false)))) else (some false))) else (none)) = some r := by first | (rw [hji10] at H; exact H) | (simp only [hji10] at H ⊢; exact H)
        (try rw [hji10] at A4)
        (try rw [hji10] at A6)
        (try rw [hji10] at A7)
        by_cases c11 : 0 ≤ (ji10)
        · rw [if_pos c11] at H
          have c11b0 := eq_true c11
          have c11b1 : decide (0 ≤ (ji10)) = true := decide_eq_true c11
          clear c11
          obtain ⟨ji12, hji12⟩ : ∃ j_ : Int, (shl .u64 1 (ji10)) = j_ := ⟨_, rfl⟩
          replace H : (if (ji12) = 0 then (none) else (if t132 = (Int.tmod a0 (ji12)) then ((bits_Sign.f t134 (wrap64 (1 + (Int.tmod (wrap64 (a2)) 63)))).bind fun t136 => ((bits_Sign.f a0 (wrap64 (1 + (Int.tmod (wrap64 (a2)) 63)))).bind fun t137 => (if t136 = t137 then (some ((shr .u64 t134 (ji10)) == (shr .u64 a1 (ji10)))) else (some false)))) else (some false))) = some r := by first | (rw [hji12] at H; exact H) | (simp only [hji12] at H ⊢; exact H)
          (try rw [hji12] at A4)
          (try rw [hji12] at A6)
          (try rw [hji12] at A7)
          have hji12_ : (IntKind.u64.wrap (1 * 2 ^ min (ji10).toNat 64)) = ji12 := hji12
          have hji12z : (ji10) ≤ 64 → (IntKind.u64.wrap (1 * 2 ^ (ji10).toNat)) = ji12 := shl_small hji12
          have hji12u : (IntKind.u64.wrap (2 ^ min (ji10).toNat 64)) = ji12 := by have h_ := hji12_; rw [Int.one_mul] at h_; exact h_
          have hji12v : (ji10) ≤ 64 → (IntKind.u64.wrap (2 ^ (ji10).toNat)) = ji12 := fun hle_ => by have h_ := hji12z hle_; rw [Int.one_mul] at h_; exact h_
          by_cases c13 : (ji12) = 0
          · rw [if_pos c13] at H
            exact absurd H (by simp)
          · rw [if_neg c13] at H
            have c13b0 : ((ji12) == 0) = false := beq_eq_false_iff_ne.mpr c13
            have c13b1 : ((ji12) != 0) = true := bne_iff_ne.mpr c13
            by_cases c14 : t132 = (Int.tmod a0 (ji12))
            · rw [if_pos c14] at H
              have c14b0 : (t132 == (Int.tmod a0 (ji12))) = true := beq_iff_eq.mpr c14
              have c14b1 : (t132 != (Int.tmod a0 (ji12))) = false := bne_eq_false_iff_eq.mpr c14
              clear c14
              replace H := Option.bind_eq_some_iff.mp H
              obtain ⟨t136, A150, H⟩ := H
              replace H : ((bits_Sign.f a0 (wrap64 (1 + (Int.tmod (wrap64 (a2)) 63)))).bind fun t137 => (if t136 = t137 then (some ((shr .u64 t134 (ji10)) == (shr .u64 a1 (ji10)))) else (some false))) = some r := H
              have A15 := Aside0.mk A150
              clear A150
              replace H := Option.bind_eq_some_iff.mp H
              obtain ⟨t137, A160, H⟩ := H
              replace H : (if t136 = t137 then (some ((shr .u64 t134 (ji10)) == (shr .u64 a1 (ji10)))) else (some false)) = some r := H
              have A16 := Aside0.mk A160
              clear A160
              by_cases c17 : t136 = t137
              · rw [if_pos c17] at H
                have c17b0 : (t136 == t137) = true := beq_iff_eq.mpr c17
                have c17b1 : (t136 != t137) = false := bne_eq_false_iff_eq.mpr c17
                clear c17
                have c18b0 := eq_true (of_decide_eq_true (by first | (with_reducible assumption) | assumption) : 0 ≤ (ji10))
                obtain ⟨ji19, hji19⟩ : ∃ j_ : Int, (shr .u64 t134 (ji10)) = j_ := ⟨_, rfl⟩
                replace H : (some ((ji19) == (shr .u64 a1 (ji10)))) = some r := by first | (rw [hji19] at H; exact H) | (simp only [hji19] at H ⊢; exact H)
                (try rw [hji19] at A4)
                (try rw [hji19] at A6)
                (try rw [hji19] at A7)
                (try rw [hji19] at A15)
                (try rw [hji19] at A16)
                have hji19_ : (t134 / 2 ^ min (ji10).toNat 64) = ji19 := hji19
                have hji19z : (ji10) ≤ 64 → (t134 / 2 ^ (ji10).toNat) = ji19 := shr_small hji19
                have c20b0 := eq_true (of_decide_eq_true (by first | (with_reducible assumption) | assumption) : 0 ≤ (ji10))
                obtain ⟨ji21, hji21⟩ : ∃ j_ : Int, (shr .u64 a1 (ji10)) = j_ := ⟨_, rfl⟩
                replace H : (some ((ji19) == (ji21))) = some r := by first | (rw [hji21] at H; exact H) | (simp only [hji21] at H ⊢; exact H)
                (try rw [hji21] at A4)
                (try rw [hji21] at A6)
                (try rw [hji21] at A7)
                (try rw [hji21] at A15)
                (try rw [hji21] at A16)
                have hji21_ : (a1 / 2 ^ min (ji10).toNat 64) = ji21 := hji21
                have hji21z : (ji10) ≤ 64 → (a1 / 2 ^ (ji10).toNat) = ji21 := shr_small hji21
                obtain rfl := Option.some.inj H
                go_enter Try.func8, Try.ntmps8
                go_wp2_with (first | ((with_reducible refine gate_callee (f := 11) rfl ?_); refine goesL_ (some 12) rfl rfl Try.func11 (by kernel_rfl) rfl #[] rfl (by (try simp only [List.map_toArray, List.map_cons, List.map_nil]); first | done | rfl | (simp only [List.length_drop, List.length_take]; rfl)) ?_; (with_reducible refine (caponierlaw01_awake.calls k  true _ A4.out).mono ?_); rintro e w22 ⟨rfl, hb⟩; refine ⟨_, rfl, ?_⟩; have n0_ := Aside0.mk (below_step (by repeat (first | (with_reducible first | exact HB.out | apply below_alloc | apply pw_below_drewN | apply below_drew1) | exact HB.out)) hb); clear HB; have HB := n0_; clear n0_; (try clear hb); (try clear hb2); (try clear hk); (try clear hi)) | ((with_reducible refine gate_callee (f := 12) rfl ?_); refine goesL_ (some 21) rfl rfl Try.func12 (by kernel_rfl) rfl #[.int .u64 a0, .int .i64 0, .int .i64 (wrap64 (1 + (Int.tmod (wrap64 (a2)) 63)))] rfl (by (try simp only [List.map_toArray, List.map_cons, List.map_nil]); first | done | rfl | (simp only [List.length_drop, List.length_take]; rfl)) ?_; (with_reducible refine (bits_Field.calls a0 0 (wrap64 (1 + (Int.tmod (wrap64 (a2)) 63))) t132 true _ A6.out).mono ?_); rintro e w' ⟨rfl, ⟨nd, rfl⟩⟩; refine ⟨_, rfl, ?_⟩) | ((with_reducible refine gate_callee (f := 14) rfl ?_); refine goesL_ (some 28) rfl rfl Try.func14 (by kernel_rfl) rfl #[.int .u64 a1, .int .i64 0, .int .i64 (wrap64 (1 + (Int.tmod (wrap64 (a2)) 63))), .int .u64 a0] rfl (by (try simp only [List.map_toArray, List.map_cons, List.map_nil]); first | done | rfl | (simp only [List.length_drop, List.length_take]; rfl)) ?_; (with_reducible refine (bits_Put.calls a1 0 (wrap64 (1 + (Int.tmod (wrap64 (a2)) 63))) a0 t134 true _ A7.out).mono ?_); rintro e w' ⟨rfl, ⟨nd, rfl⟩⟩; refine ⟨_, rfl, ?_⟩) | (go_at_call 16; (with_reducible refine (bits_Sign.calls t134 (wrap64 (1 + (Int.tmod (wrap64 (a2)) 63))) t136 _ A15.out).mono ?_); rintro e w' ⟨rfl, ⟨nd, rfl⟩⟩) | (go_at_call 16; (with_reducible refine (bits_Sign.calls a0 (wrap64 (1 + (Int.tmod (wrap64 (a2)) 63))) t137 _ A16.out).mono ?_); rintro e w' ⟨rfl, ⟨nd, rfl⟩⟩))
                go_ret
                exact ⟨by first | rfl | (simp [errW_none, errW_some] <;> rfl) | (simp only [← hji10, ← hji12, ← hji19, ← hji21]; first | rfl | (simp [errW_none, errW_some] <;> rfl)) | (simp [*, errW_none, errW_some] <;> rfl), by repeat (first | (with_reducible first | exact HB.out | apply below_alloc | apply pw_below_drewN | apply below_drew1) | exact HB.out)⟩
              · rw [if_neg c17] at H
                have c17b0 : (t136 == t137) = false := beq_eq_false_iff_ne.mpr c17
                have c17b1 : (t136 != t137) = true := bne_iff_ne.mpr c17
                obtain rfl := Option.some.inj H
                go_enter Try.func8, Try.ntmps8
                go_wp2_with (first | ((with_reducible refine gate_callee (f := 11) rfl ?_); refine goesL_ (some 12) rfl rfl Try.func11 (by kernel_rfl) rfl #[] rfl (by (try simp only [List.map_toArray, List.map_cons, List.map_nil]); first | done | rfl | (simp only [List.length_drop, List.length_take]; rfl)) ?_; (with_reducible refine (caponierlaw01_awake.calls k  true _ A4.out).mono ?_); rintro e w23 ⟨rfl, hb⟩; refine ⟨_, rfl, ?_⟩; have n0_ := Aside0.mk (below_step (by repeat (first | (with_reducible first | exact HB.out | apply below_alloc | apply pw_below_drewN | apply below_drew1) | exact HB.out)) hb); clear HB; have HB := n0_; clear n0_; (try clear hb); (try clear hb2); (try clear hk); (try clear hi)) | ((with_reducible refine gate_callee (f := 12) rfl ?_); refine goesL_ (some 21) rfl rfl Try.func12 (by kernel_rfl) rfl #[.int .u64 a0, .int .i64 0, .int .i64 (wrap64 (1 + (Int.tmod (wrap64 (a2)) 63)))] rfl (by (try simp only [List.map_toArray, List.map_cons, List.map_nil]); first | done | rfl | (simp only [List.length_drop, List.length_take]; rfl)) ?_; (with_reducible refine (bits_Field.calls a0 0 (wrap64 (1 + (Int.tmod (wrap64 (a2)) 63))) t132 true _ A6.out).mono ?_); rintro e w' ⟨rfl, ⟨nd, rfl⟩⟩; refine ⟨_, rfl, ?_⟩) | ((with_reducible refine gate_callee (f := 14) rfl ?_); refine goesL_ (some 28) rfl rfl Try.func14 (by kernel_rfl) rfl #[.int .u64 a1, .int .i64 0, .int .i64 (wrap64 (1 + (Int.tmod (wrap64 (a2)) 63))), .int .u64 a0] rfl (by (try simp only [List.map_toArray, List.map_cons, List.map_nil]); first | done | rfl | (simp only [List.length_drop, List.length_take]; rfl)) ?_; (with_reducible refine (bits_Put.calls a1 0 (wrap64 (1 + (Int.tmod (wrap64 (a2)) 63))) a0 t134 true _ A7.out).mono ?_); rintro e w' ⟨rfl, ⟨nd, rfl⟩⟩; refine ⟨_, rfl, ?_⟩) | (go_at_call 16; (with_reducible refine (bits_Sign.calls t134 (wrap64 (1 + (Int.tmod (wrap64 (a2)) 63))) t136 _ A15.out).mono ?_); rintro e w' ⟨rfl, ⟨nd, rfl⟩⟩) | (go_at_call 16; (with_reducible refine (bits_Sign.calls a0 (wrap64 (1 + (Int.tmod (wrap64 (a2)) 63))) t137 _ A16.out).mono ?_); rintro e w' ⟨rfl, ⟨nd, rfl⟩⟩))
                go_ret
                exact ⟨by first | rfl | (simp [errW_none, errW_some] <;> rfl) | (simp only [← hji10, ← hji12]; first | rfl | (simp [errW_none, errW_some] <;> rfl)) | (simp [*, errW_none, errW_some] <;> rfl), by repeat (first | (with_reducible first | exact HB.out | apply below_alloc | apply pw_below_drewN | apply below_drew1) | exact HB.out)⟩
            · rw [if_neg c14] at H
              have c14b0 : (t132 == (Int.tmod a0 (ji12))) = false := beq_eq_false_iff_ne.mpr c14
              have c14b1 : (t132 != (Int.tmod a0 (ji12))) = true := bne_iff_ne.mpr c14
              obtain rfl := Option.some.inj H
              go_enter Try.func8, Try.ntmps8
              go_wp2_with (first | ((with_reducible refine gate_callee (f := 11) rfl ?_); refine goesL_ (some 12) rfl rfl Try.func11 (by kernel_rfl) rfl #[] rfl (by (try simp only [List.map_toArray, List.map_cons, List.map_nil]); first | done | rfl | (simp only [List.length_drop, List.length_take]; rfl)) ?_; (with_reducible refine (caponierlaw01_awake.calls k  true _ A4.out).mono ?_); rintro e w24 ⟨rfl, hb⟩; refine ⟨_, rfl, ?_⟩; have n0_ := Aside0.mk (below_step (by repeat (first | (with_reducible first | exact HB.out | apply below_alloc | apply pw_below_drewN | apply below_drew1) | exact HB.out)) hb); clear HB; have HB := n0_; clear n0_; (try clear hb); (try clear hb2); (try clear hk); (try clear hi)) | ((with_reducible refine gate_callee (f := 12) rfl ?_); refine goesL_ (some 21) rfl rfl Try.func12 (by kernel_rfl) rfl #[.int .u64 a0, .int .i64 0, .int .i64 (wrap64 (1 + (Int.tmod (wrap64 (a2)) 63)))] rfl (by (try simp only [List.map_toArray, List.map_cons, List.map_nil]); first | done | rfl | (simp only [List.length_drop, List.length_take]; rfl)) ?_; (with_reducible refine (bits_Field.calls a0 0 (wrap64 (1 + (Int.tmod (wrap64 (a2)) 63))) t132 true _ A6.out).mono ?_); rintro e w' ⟨rfl, ⟨nd, rfl⟩⟩; refine ⟨_, rfl, ?_⟩) | ((with_reducible refine gate_callee (f := 14) rfl ?_); refine goesL_ (some 28) rfl rfl Try.func14 (by kernel_rfl) rfl #[.int .u64 a1, .int .i64 0, .int .i64 (wrap64 (1 + (Int.tmod (wrap64 (a2)) 63))), .int .u64 a0] rfl (by (try simp only [List.map_toArray, List.map_cons, List.map_nil]); first | done | rfl | (simp only [List.length_drop, List.length_take]; rfl)) ?_; (with_reducible refine (bits_Put.calls a1 0 (wrap64 (1 + (Int.tmod (wrap64 (a2)) 63))) a0 t134 true _ A7.out).mono ?_); rintro e w' ⟨rfl, ⟨nd, rfl⟩⟩; refine ⟨_, rfl, ?_⟩))
              go_ret
              exact ⟨by first | rfl | (simp [errW_none, errW_some] <;> rfl) | (simp only [← hji10, ← hji12]; first | rfl | (simp [errW_none, errW_some] <;> rfl)) | (simp [*, errW_none, errW_some] <;> rfl), by repeat (first | (with_reducible first | exact HB.out | apply below_alloc | apply pw_below_drewN | apply below_drew1) | exact HB.out)⟩
        · rw [if_neg c11] at H
          exact absurd H (by simp)
      · replace c9 := Bool.eq_false_iff.mpr c9
        subst c9
        have H1 : (some false) = some r := by rw [if_neg (show ¬ (false = true) by decide)] at H; exact H
        clear H
        have H := H1
        clear H1
        obtain rfl := Option.some.inj H
        go_enter Try.func8, Try.ntmps8
        go_wp2_with (first | ((with_reducible refine gate_callee (f := 11) rfl ?_); refine goesL_ (some 12) rfl rfl Try.func11 (by kernel_rfl) rfl #[] rfl (by (try simp only [List.map_toArray, List.map_cons, List.map_nil]); first | done | rfl | (simp only [List.length_drop, List.length_take]; rfl)) ?_; (with_reducible refine (caponierlaw01_awake.calls k  true _ A4.out).mono ?_); rintro e w25 ⟨rfl, hb⟩; refine ⟨_, rfl, ?_⟩; have n0_ := Aside0.mk (below_step (by repeat (first | (with_reducible first | exact HB.out | apply below_alloc | apply pw_below_drewN | apply below_drew1) | exact HB.out)) hb); clear HB; have HB := n0_; clear n0_; (try clear hb); (try clear hb2); (try clear hk); (try clear hi)) | ((with_reducible refine gate_callee (f := 12) rfl ?_); refine goesL_ (some 21) rfl rfl Try.func12 (by kernel_rfl) rfl #[.int .u64 a0, .int .i64 0, .int .i64 (wrap64 (1 + (Int.tmod (wrap64 (a2)) 63)))] rfl (by (try simp only [List.map_toArray, List.map_cons, List.map_nil]); first | done | rfl | (simp only [List.length_drop, List.length_take]; rfl)) ?_; (with_reducible refine (bits_Field.calls a0 0 (wrap64 (1 + (Int.tmod (wrap64 (a2)) 63))) t132 true _ A6.out).mono ?_); rintro e w' ⟨rfl, ⟨nd, rfl⟩⟩; refine ⟨_, rfl, ?_⟩) | ((with_reducible refine gate_callee (f := 14) rfl ?_); refine goesL_ (some 28) rfl rfl Try.func14 (by kernel_rfl) rfl #[.int .u64 a1, .int .i64 0, .int .i64 (wrap64 (1 + (Int.tmod (wrap64 (a2)) 63))), .int .u64 a0] rfl (by (try simp only [List.map_toArray, List.map_cons, List.map_nil]); first | done | rfl | (simp only [List.length_drop, List.length_take]; rfl)) ?_; (with_reducible refine (bits_Put.calls a1 0 (wrap64 (1 + (Int.tmod (wrap64 (a2)) 63))) a0 t134 false _ A7.out).mono ?_); rintro e w' ⟨rfl, ⟨nd, rfl⟩⟩; refine ⟨_, rfl, ?_⟩))
        go_ret
        exact ⟨by first | rfl | (simp [errW_none, errW_some] <;> rfl) | (simp [*, errW_none, errW_some] <;> rfl), by repeat (first | (with_reducible first | exact HB.out | apply below_alloc | apply pw_below_drewN | apply below_drew1) | exact HB.out)⟩
    · replace c8 := Bool.eq_false_iff.mpr c8
      subst c8
      have H1 : (some false) = some r := by rw [if_neg (show ¬ (false = true) by decide)] at H; exact H
      clear H
      have H := H1
      clear H1
      obtain rfl := Option.some.inj H
      go_enter Try.func8, Try.ntmps8
      go_wp2_with (first | ((with_reducible refine gate_callee (f := 11) rfl ?_); refine goesL_ (some 12) rfl rfl Try.func11 (by kernel_rfl) rfl #[] rfl (by (try simp only [List.map_toArray, List.map_cons, List.map_nil]); first | done | rfl | (simp only [List.length_drop, List.length_take]; rfl)) ?_; (with_reducible refine (caponierlaw01_awake.calls k  true _ A4.out).mono ?_); rintro e w26 ⟨rfl, hb⟩; refine ⟨_, rfl, ?_⟩; have n0_ := Aside0.mk (below_step (by repeat (first | (with_reducible first | exact HB.out | apply below_alloc | apply pw_below_drewN | apply below_drew1) | exact HB.out)) hb); clear HB; have HB := n0_; clear n0_; (try clear hb); (try clear hb2); (try clear hk); (try clear hi)) | ((with_reducible refine gate_callee (f := 12) rfl ?_); refine goesL_ (some 21) rfl rfl Try.func12 (by kernel_rfl) rfl #[.int .u64 a0, .int .i64 0, .int .i64 (wrap64 (1 + (Int.tmod (wrap64 (a2)) 63)))] rfl (by (try simp only [List.map_toArray, List.map_cons, List.map_nil]); first | done | rfl | (simp only [List.length_drop, List.length_take]; rfl)) ?_; (with_reducible refine (bits_Field.calls a0 0 (wrap64 (1 + (Int.tmod (wrap64 (a2)) 63))) t132 false _ A6.out).mono ?_); rintro e w' ⟨rfl, ⟨nd, rfl⟩⟩; refine ⟨_, rfl, ?_⟩) | ((with_reducible refine gate_callee (f := 14) rfl ?_); refine goesL_ (some 28) rfl rfl Try.func14 (by kernel_rfl) rfl #[.int .u64 a1, .int .i64 0, .int .i64 (wrap64 (1 + (Int.tmod (wrap64 (a2)) 63))), .int .u64 a0] rfl (by (try simp only [List.map_toArray, List.map_cons, List.map_nil]); first | done | rfl | (simp only [List.length_drop, List.length_take]; rfl)) ?_; (with_reducible refine (bits_Put.calls a1 0 (wrap64 (1 + (Int.tmod (wrap64 (a2)) 63))) a0 t134 t135 _ A7.out).mono ?_); rintro e w' ⟨rfl, ⟨nd, rfl⟩⟩; refine ⟨_, rfl, ?_⟩))
      go_ret
      exact ⟨by first | rfl | (simp [errW_none, errW_some] <;> rfl) | (simp [*, errW_none, errW_some] <;> rfl), by repeat (first | (with_reducible first | exact HB.out | apply below_alloc | apply pw_below_drewN | apply below_drew1) | exact HB.out)⟩
  · replace c5 := Bool.eq_false_iff.mpr c5
    subst c5
    have H1 : (some false) = some r := by rw [if_neg (show ¬ (false = true) by decide)] at H; exact H
    clear H
    have H := H1
    clear H1
    obtain rfl := Option.some.inj H
    go_enter Try.func8, Try.ntmps8
    go_wp2_with (first | ((with_reducible refine gate_callee (f := 11) rfl ?_); refine goesL_ (some 12) rfl rfl Try.func11 (by kernel_rfl) rfl #[] rfl (by (try simp only [List.map_toArray, List.map_cons, List.map_nil]); first | done | rfl | (simp only [List.length_drop, List.length_take]; rfl)) ?_; (with_reducible refine (caponierlaw01_awake.calls k  false _ A4.out).mono ?_); rintro e w27 ⟨rfl, hb⟩; refine ⟨_, rfl, ?_⟩; have n0_ := Aside0.mk (below_step (by repeat (first | (with_reducible first | exact HB.out | apply below_alloc | apply pw_below_drewN | apply below_drew1) | exact HB.out)) hb); clear HB; have HB := n0_; clear n0_; (try clear hb); (try clear hb2); (try clear hk); (try clear hi)))
    go_ret
    exact ⟨by first | rfl | (simp [errW_none, errW_some] <;> rfl) | (simp [*, errW_none, errW_some] <;> rfl), by repeat (first | (with_reducible first | exact HB.out | apply below_alloc | apply pw_below_drewN | apply below_drew1) | exact HB.out)⟩

/-- THE ONE PURE STATEMENT of caponierlaw01_BitsOnes: yours. -/
def caponierlaw01_BitsOnes.Pure : Prop := ∀ (a0 : Int) (a1 : Int) (a2 : Int), (Lit.int .u64 a0).wf = true → (Lit.int .u64 a1).wf = true → (Lit.int .u8 a2).wf = true → ∃ k, caponierlaw01_BitsOnes.f k a0 a1 a2 = some true
theorem caponierlaw01_BitsOnes.walk (P : caponierlaw01_BitsOnes.Pure) (a0 : Int) (a1 : Int) (a2 : Int) (w : World) (w0 : (Lit.int .u64 a0).wf = true) (w1 : (Lit.int .u64 a1).wf = true) (w2 : (Lit.int .u8 a2).wf = true) :
    Calls Try.prog 8 #[.int .u64 a0, .int .u64 a1, .int .u8 a2] w fun e w' => e = .returned (.bool true) ∧ Below w.heap.size w w' := by
  obtain ⟨k, h⟩ := P a0 a1 a2 w0 w1 w2
  refine (caponierlaw01_BitsOnes.calls k a0 a1 a2 true w h).mono ?_
  rintro e w' ⟨rfl, hd⟩
  exact ⟨rfl, hd⟩

end Go.Proofs.Ytldpmehcpiamlaa.PBitsOnes
