/- Written by a program of this session (ownprint.py) out of the translation's print, some proofs replaced: Go functions as Lean functions, and that the Go code comes to their answers. -/
import Derived.Test.YtldpmehcpiamlaaQBitsRangex0
import Derived.Test.YtldpmehcpiamlaaQBitsRangex1
namespace Go.Proofs.Ytldpmehcpiamlaa.PBitsRange
open Go.RowKit Go.Proofs.YtldpmehcpiamlaaW.PrintWords Go.Proofs.YtldpmehcpiamlaaW.PrintLast Go.Proofs.YtldpmehcpiamlaaW.PrintMore
attribute [local go_sem] max2_int min2_int max_two min_two max_three min_three max_four min_four   -- for this text's walks alone
set_option linter.unusedVariables false
set_option linter.unusedSimpArgs false

/-! ### caponierlaw01_awake: function 11 -/
def caponierlaw01_awake.f (k : Nat)  : Option (Bool) := (bits_Field.f 43981 4 8).bind fun bt114 => ((bits_Put.f 43981 4 8 274).bind fun bt116 => ((bits_Field.f 1 60 5).bind fun bt118 => (if bt114.1 = 188 then (if bt114.2 = true then (if bt116.1 = 41261 then (if bt116.2 = true then (if bt118.2 = true then (some false) else ((bits_Sign.f 255 8).bind fun t120 => (if t120 = (-1) then ((bits_Fits.f (-1) 1).bind fun t121 => (if t121 = true then ((bits_Fits.f 1 1).bind fun t122 => (if t122 = true then (some false) else ((bits_FitsU.f 1 1).bind fun t123 => (if t123 = true then ((bits_Bytes.f k 258 2).bind fun t124 => ((caponierref01_Same.f k t124 (([2, 1] : List Int))).bind fun t130 => (some t130))) else (some false))))) else (some false))) else (some false)))) else (some false)) else (some false)) else (some false)) else (some false))))
theorem caponierlaw01_awake.mono : ∀ k, LeO (caponierlaw01_awake.f k ) (caponierlaw01_awake.f (k + 1) ) := by
  intro  k
  unfold caponierlaw01_awake.f
  repeat' first
      | (with_reducible exact bits_Bytes.mono _ _ _)
      | (with_reducible exact caponierref01_Same.mono _ _ _)
      | (with_reducible exact LeO.refl _)
      | (with_reducible exact LeO.none _)
      | (with_reducible refine LeO.ite ?_ ?_)
      | (with_reducible refine LeO.bind ?_ (fun _ => ?_))
      | exact bits_Bytes.mono _ _ _
      | exact caponierref01_Same.mono _ _ _
      | exact LeO.none _
      | refine LeO.ite ?_ ?_
      | refine LeO.bind ?_ (fun _ => ?_)
set_option maxHeartbeats 8000000 in
set_option maxRecDepth 100000 in
theorem caponierlaw01_awake.calls (k : Nat)  (r : Bool) (w : World) (h : caponierlaw01_awake.f k  = some r) :
    Calls Try.prog 11 #[] w fun e w' => e = .returned (.bool r) ∧ Below w.heap.size w w' := by
  have HB := Aside0.mk (Below.refl w.heap.size w)
  have H : ((bits_Field.f 43981 4 8).bind fun bt114 => ((bits_Put.f 43981 4 8 274).bind fun bt116 => ((bits_Field.f 1 60 5).bind fun bt118 => (if bt114.1 = 188 then (if bt114.2 = true then (if bt116.1 = 41261 then (if bt116.2 = true then (if bt118.2 = true then (some false) else ((bits_Sign.f 255 8).bind fun t120 => (if t120 = (-1) then ((bits_Fits.f (-1) 1).bind fun t121 => (if t121 = true then ((bits_Fits.f 1 1).bind fun t122 => (if t122 = true then (some false) else ((bits_FitsU.f 1 1).bind fun t123 => (if t123 = true then ((bits_Bytes.f k 258 2).bind fun t124 => ((caponierref01_Same.f k t124 (([2, 1] : List Int))).bind fun t130 => (some t130))) else (some false))))) else (some false))) else (some false)))) else (some false)) else (some false)) else (some false)) else (some false))))) = some r := h
  clear h
  replace H := Option.bind_eq_some_iff.mp H
  obtain ⟨⟨t114, t115⟩, A10, H⟩ := H
  replace H : ((bits_Put.f 43981 4 8 274).bind fun bt116 => ((bits_Field.f 1 60 5).bind fun bt118 => (if t114 = 188 then (if t115 = true then (if bt116.1 = 41261 then (if bt116.2 = true then (if bt118.2 = true then (some false) else ((bits_Sign.f 255 8).bind fun t120 => (if t120 = (-1) then ((bits_Fits.f (-1) 1).bind fun t121 => (if t121 = true then ((bits_Fits.f 1 1).bind fun t122 => (if t122 = true then (some false) else ((bits_FitsU.f 1 1).bind fun t123 => (if t123 = true then ((bits_Bytes.f k 258 2).bind fun t124 => ((caponierref01_Same.f k t124 (([2, 1] : List Int))).bind fun t130 => (some t130))) else (some false))))) else (some false))) else (some false)))) else (some false)) else (some false)) else (some false)) else (some false)))) = some r := H
  have A1 := Aside0.mk A10
  clear A10
  replace H := Option.bind_eq_some_iff.mp H
  obtain ⟨⟨t116, t117⟩, A20, H⟩ := H
  replace H : ((bits_Field.f 1 60 5).bind fun bt118 => (if t114 = 188 then (if t115 = true then (if t116 = 41261 then (if t117 = true then (if bt118.2 = true then (some false) else ((bits_Sign.f 255 8).bind fun t120 => (if t120 = (-1) then ((bits_Fits.f (-1) 1).bind fun t121 => (if t121 = true then ((bits_Fits.f 1 1).bind fun t122 => (if t122 = true then (some false) else ((bits_FitsU.f 1 1).bind fun t123 => (if t123 = true then ((bits_Bytes.f k 258 2).bind fun t124 => ((caponierref01_Same.f k t124 (([2, 1] : List Int))).bind fun t130 => (some t130))) else (some false))))) else (some false))) else (some false)))) else (some false)) else (some false)) else (some false)) else (some false))) = some r := H
  have A2 := Aside0.mk A20
  clear A20
  replace H := Option.bind_eq_some_iff.mp H
  obtain ⟨⟨t118, t119⟩, A30, H⟩ := H
  replace H : (if t114 = 188 then (if t115 = true then (if t116 = 41261 then (if t117 = true then (if t119 = true then (some false) else ((bits_Sign.f 255 8).bind fun t120 => (if t120 = (-1) then ((bits_Fits.f (-1) 1).bind fun t121 => (if t121 = true then ((bits_Fits.f 1 1).bind fun t122 => (if t122 = true then (some false) else ((bits_FitsU.f 1 1).bind fun t123 => (if t123 = true then ((bits_Bytes.f k 258 2).bind fun t124 => ((caponierref01_Same.f k t124 (([2, 1] : List Int))).bind fun t130 => (some t130))) else (some false))))) else (some false))) else (some false)))) else (some false)) else (some false)) else (some false)) else (some false)) = some r := H
  have A3 := Aside0.mk A30
  clear A30
  by_cases c4 : t114 = 188
  · rw [if_pos c4] at H
    have c4b0 : (t114 == 188) = true := beq_iff_eq.mpr c4
    have c4b1 : (t114 != 188) = false := bne_eq_false_iff_eq.mpr c4
    clear c4
    by_cases c5 : t115 = true
    · subst c5
      have H1 : (if t116 = 41261 then (if t117 = true then (if t119 = true then (some false) else ((bits_Sign.f 255 8).bind fun t120 => (if t120 = (-1) then ((bits_Fits.f (-1) 1).bind fun t121 => (if t121 = true then ((bits_Fits.f 1 1).bind fun t122 => (if t122 = true then (some false) else ((bits_FitsU.f 1 1).bind fun t123 => (if t123 = true then ((bits_Bytes.f k 258 2).bind fun t124 => ((caponierref01_Same.f k t124 (([2, 1] : List Int))).bind fun t130 => (some t130))) else (some false))))) else (some false))) else (some false)))) else (some false)) else (some false)) = some r := by rw [if_pos rfl] at H; exact H
      clear H
      have H := H1
      clear H1
      by_cases c6 : t116 = 41261
      · rw [if_pos c6] at H
        have c6b0 : (t116 == 41261) = true := beq_iff_eq.mpr c6
        have c6b1 : (t116 != 41261) = false := bne_eq_false_iff_eq.mpr c6
        clear c6
        by_cases c7 : t117 = true
        · subst c7
          have H1 : (if t119 = true then (some false) else ((bits_Sign.f 255 8).bind fun t120 => (if t120 = (-1) then ((bits_Fits.f (-1) 1).bind fun t121 => (if t121 = true then ((bits_Fits.f 1 1).bind fun t122 => (if t122 = true then (some false) else ((bits_FitsU.f 1 1).bind fun t123 => (if t123 = true then ((bits_Bytes.f k 258 2).bind fun t124 => ((caponierref01_Same.f k t124 (([2, 1] : List Int))).bind fun t130 => (some t130))) else (some false))))) else (some false))) else (some false)))) = some r := by rw [if_pos rfl] at H; exact H
          clear H
          have H := H1
          clear H1
          by_cases c8 : t119 = true
          · subst c8
            have H1 : (some false) = some r := by rw [if_pos rfl] at H; exact H
            clear H
            have H := H1
            clear H1
            obtain rfl := Option.some.inj H
            go_enter Try.func11, Try.ntmps11
            go_wp2_with (first | ((with_reducible refine gate_callee (f := 12) rfl ?_); refine goesL_ (some 8) rfl rfl Try.func12 (by kernel_rfl) rfl #[.int .u64 43981, .int .i64 4, .int .i64 8] rfl (by (try simp only [List.map_toArray, List.map_cons, List.map_nil]); first | done | rfl | (simp only [List.length_drop, List.length_take]; rfl)) ?_; (with_reducible refine (bits_Field.calls 43981 4 8 t114 true _ A1.out).mono ?_); rintro e w' ⟨rfl, ⟨nd, rfl⟩⟩; refine ⟨_, rfl, ?_⟩) | ((with_reducible refine gate_callee (f := 14) rfl ?_); refine goesL_ (some 12) rfl rfl Try.func14 (by kernel_rfl) rfl #[.int .u64 43981, .int .i64 4, .int .i64 8, .int .u64 274] rfl (by (try simp only [List.map_toArray, List.map_cons, List.map_nil]); first | done | rfl | (simp only [List.length_drop, List.length_take]; rfl)) ?_; (with_reducible refine (bits_Put.calls 43981 4 8 274 t116 true _ A2.out).mono ?_); rintro e w' ⟨rfl, ⟨nd, rfl⟩⟩; refine ⟨_, rfl, ?_⟩) | ((with_reducible refine gate_callee (f := 12) rfl ?_); refine goesL_ (some 16) rfl rfl Try.func12 (by kernel_rfl) rfl #[.int .u64 1, .int .i64 60, .int .i64 5] rfl (by (try simp only [List.map_toArray, List.map_cons, List.map_nil]); first | done | rfl | (simp only [List.length_drop, List.length_take]; rfl)) ?_; (with_reducible refine (bits_Field.calls 1 60 5 t118 true _ A3.out).mono ?_); rintro e w' ⟨rfl, ⟨nd, rfl⟩⟩; refine ⟨_, rfl, ?_⟩))
            go_ret
            exact ⟨by first | rfl | (simp [errW_none, errW_some] <;> rfl) | (simp [*, errW_none, errW_some] <;> rfl), by repeat (first | (with_reducible first | exact HB.out | apply below_alloc | apply pw_below_drewN | apply below_drew1) | exact HB.out)⟩
          · replace c8 := Bool.eq_false_iff.mpr c8
            subst c8
            have H1 : ((bits_Sign.f 255 8).bind fun t120 => (if t120 = (-1) then ((bits_Fits.f (-1) 1).bind fun t121 => (if t121 = true then ((bits_Fits.f 1 1).bind fun t122 => (if t122 = true then (some false) else ((bits_FitsU.f 1 1).bind fun t123 => (if t123 = true then ((bits_Bytes.f k 258 2).bind fun t124 => ((caponierref01_Same.f k t124 (([2, 1] : List Int))).bind fun t130 => (some t130))) else (some false))))) else (some false))) else (some false))) = some r := by rw [if_neg (show ¬ (false = true) by decide)] at H; exact H
            clear H
            have H := H1
            clear H1
            replace H := Option.bind_eq_some_iff.mp H
            obtain ⟨t120, A90, H⟩ := H
            replace H : (if t120 = (-1) then ((bits_Fits.f (-1) 1).bind fun t121 => (if t121 = true then ((bits_Fits.f 1 1).bind fun t122 => (if t122 = true then (some false) else ((bits_FitsU.f 1 1).bind fun t123 => (if t123 = true then ((bits_Bytes.f k 258 2).bind fun t124 => ((caponierref01_Same.f k t124 (([2, 1] : List Int))).bind fun t130 => (some t130))) else (some false))))) else (some false))) else (some false)) = some r := H
            have A9 := Aside0.mk A90
            clear A90
            by_cases c10 : t120 = (-1)
            · rw [if_pos c10] at H
              have c10b0 : (t120 == (-1)) = true := beq_iff_eq.mpr c10
              have c10b1 : (t120 != (-1)) = false := bne_eq_false_iff_eq.mpr c10
              clear c10
              replace H := Option.bind_eq_some_iff.mp H
              obtain ⟨t121, A110, H⟩ := H
              replace H : (if t121 = true then ((bits_Fits.f 1 1).bind fun t122 => (if t122 = true then (some false) else ((bits_FitsU.f 1 1).bind fun t123 => (if t123 = true then ((bits_Bytes.f k 258 2).bind fun t124 => ((caponierref01_Same.f k t124 (([2, 1] : List Int))).bind fun t130 => (some t130))) else (some false))))) else (some false)) = some r := H
              have A11 := Aside0.mk A110
              clear A110
              by_cases c12 : t121 = true
              · subst c12
                have H1 : ((bits_Fits.f 1 1).bind fun t122 => (if t122 = true then (some false) else ((bits_FitsU.f 1 1).bind fun t123 => (if t123 = true then ((bits_Bytes.f k 258 2).bind fun t124 => ((caponierref01_Same.f k t124 (([2, 1] : List Int))).bind fun t130 => (some t130))) else (some false))))) = some r := by rw [if_pos rfl] at H; exact H
                clear H
                have H := H1
                clear H1
                replace H := Option.bind_eq_some_iff.mp H
                obtain ⟨t122, A130, H⟩ := H
                replace H : (if t122 = true then (some false) else ((bits_FitsU.f 1 1).bind fun t123 => (if t123 = true then ((bits_Bytes.f k 258 2).bind fun t124 => ((caponierref01_Same.f k t124 (([2, 1] : List Int))).bind fun t130 => (some t130))) else (some false)))) = some r := H
                have A13 := Aside0.mk A130
                clear A130
                by_cases c14 : t122 = true
                · subst c14
                  have H1 : (some false) = some r := by rw [if_pos rfl] at H; exact H
                  clear H
                  have H := H1
                  clear H1
                  obtain rfl := Option.some.inj H
                  go_enter Try.func11, Try.ntmps11
                  go_wp2_with (first | ((with_reducible refine gate_callee (f := 12) rfl ?_); refine goesL_ (some 8) rfl rfl Try.func12 (by kernel_rfl) rfl #[.int .u64 43981, .int .i64 4, .int .i64 8] rfl (by (try simp only [List.map_toArray, List.map_cons, List.map_nil]); first | done | rfl | (simp only [List.length_drop, List.length_take]; rfl)) ?_; (with_reducible refine (bits_Field.calls 43981 4 8 t114 true _ A1.out).mono ?_); rintro e w' ⟨rfl, ⟨nd, rfl⟩⟩; refine ⟨_, rfl, ?_⟩) | ((with_reducible refine gate_callee (f := 14) rfl ?_); refine goesL_ (some 12) rfl rfl Try.func14 (by kernel_rfl) rfl #[.int .u64 43981, .int .i64 4, .int .i64 8, .int .u64 274] rfl (by (try simp only [List.map_toArray, List.map_cons, List.map_nil]); first | done | rfl | (simp only [List.length_drop, List.length_take]; rfl)) ?_; (with_reducible refine (bits_Put.calls 43981 4 8 274 t116 true _ A2.out).mono ?_); rintro e w' ⟨rfl, ⟨nd, rfl⟩⟩; refine ⟨_, rfl, ?_⟩) | ((with_reducible refine gate_callee (f := 12) rfl ?_); refine goesL_ (some 16) rfl rfl Try.func12 (by kernel_rfl) rfl #[.int .u64 1, .int .i64 60, .int .i64 5] rfl (by (try simp only [List.map_toArray, List.map_cons, List.map_nil]); first | done | rfl | (simp only [List.length_drop, List.length_take]; rfl)) ?_; (with_reducible refine (bits_Field.calls 1 60 5 t118 false _ A3.out).mono ?_); rintro e w' ⟨rfl, ⟨nd, rfl⟩⟩; refine ⟨_, rfl, ?_⟩) | (go_at_call 16; (with_reducible refine (bits_Sign.calls 255 8 t120 _ A9.out).mono ?_); rintro e w' ⟨rfl, ⟨nd, rfl⟩⟩) | (go_at_call 18; (with_reducible refine (bits_Fits.calls (-1) 1 true _ A11.out).mono ?_); rintro e w' ⟨rfl, ⟨nd, rfl⟩⟩) | (go_at_call 18; (with_reducible refine (bits_Fits.calls 1 1 true _ A13.out).mono ?_); rintro e w' ⟨rfl, ⟨nd, rfl⟩⟩))
                  go_ret
                  exact ⟨by first | rfl | (simp [errW_none, errW_some] <;> rfl) | (simp [*, errW_none, errW_some] <;> rfl), by repeat (first | (with_reducible first | exact HB.out | apply below_alloc | apply pw_below_drewN | apply below_drew1) | exact HB.out)⟩
                · replace c14 := Bool.eq_false_iff.mpr c14
                  subst c14
                  have H1 : ((bits_FitsU.f 1 1).bind fun t123 => (if t123 = true then ((bits_Bytes.f k 258 2).bind fun t124 => ((caponierref01_Same.f k t124 (([2, 1] : List Int))).bind fun t130 => (some t130))) else (some false))) = some r := by rw [if_neg (show ¬ (false = true) by decide)] at H; exact H
                  clear H
                  have H := H1
                  clear H1
                  replace H := Option.bind_eq_some_iff.mp H
                  obtain ⟨t123, A150, H⟩ := H
                  replace H : (if t123 = true then ((bits_Bytes.f k 258 2).bind fun t124 => ((caponierref01_Same.f k t124 (([2, 1] : List Int))).bind fun t130 => (some t130))) else (some false)) = some r := H
                  have A15 := Aside0.mk A150
                  clear A150
                  by_cases c16 : t123 = true
                  · subst c16
                    have H1 : ((bits_Bytes.f k 258 2).bind fun t124 => ((caponierref01_Same.f k t124 (([2, 1] : List Int))).bind fun t130 => (some t130))) = some r := by rw [if_pos rfl] at H; exact H
                    clear H
                    have H := H1
                    clear H1
                    replace H := Option.bind_eq_some_iff.mp H
                    obtain ⟨t124, A170, H⟩ := H
                    replace H : ((caponierref01_Same.f k t124 (([2, 1] : List Int))).bind fun t130 => (some t130)) = some r := H
                    have A17 := Aside0.mk A170
                    clear A170
                    obtain ⟨y127, hy127⟩ : ∃ y_ : List Int, y_ = (([2, 1] : List Int)) := ⟨_, rfl⟩
                    replace H : ((caponierref01_Same.f k t124 y127).bind fun t130 => (some t130)) = some r := by first | (rw [hy127]; with_reducible exact H) | (have H2_ := (Option.bind_some _ _).symm.trans H; rw [hy127]; with_reducible exact H2_) | (have H2_ := (Option.bind_some _ _).symm.trans H; with_reducible exact H2_) | with_reducible exact H | (rw [hy127]; exact H) | exact H
                    have Ny127 := Aside0.mk hy127
                    clear hy127
                    replace H := Option.bind_eq_some_iff.mp H
                    obtain ⟨t130, A180, H⟩ := H
                    replace H : (some t130) = some r := H
                    have A18 := Aside0.mk A180
                    clear A180
                    obtain rfl := Option.some.inj H
                    go_enter Try.func11, Try.ntmps11
                    go_wp2_with (first | ((with_reducible refine gate_callee (f := 12) rfl ?_); refine goesL_ (some 8) rfl rfl Try.func12 (by kernel_rfl) rfl #[.int .u64 43981, .int .i64 4, .int .i64 8] rfl (by (try simp only [List.map_toArray, List.map_cons, List.map_nil]); first | done | rfl | (simp only [List.length_drop, List.length_take]; rfl)) ?_; (with_reducible refine (bits_Field.calls 43981 4 8 t114 true _ A1.out).mono ?_); rintro e w' ⟨rfl, ⟨nd, rfl⟩⟩; refine ⟨_, rfl, ?_⟩) | ((with_reducible refine gate_callee (f := 14) rfl ?_); refine goesL_ (some 12) rfl rfl Try.func14 (by kernel_rfl) rfl #[.int .u64 43981, .int .i64 4, .int .i64 8, .int .u64 274] rfl (by (try simp only [List.map_toArray, List.map_cons, List.map_nil]); first | done | rfl | (simp only [List.length_drop, List.length_take]; rfl)) ?_; (with_reducible refine (bits_Put.calls 43981 4 8 274 t116 true _ A2.out).mono ?_); rintro e w' ⟨rfl, ⟨nd, rfl⟩⟩; refine ⟨_, rfl, ?_⟩) | ((with_reducible refine gate_callee (f := 12) rfl ?_); refine goesL_ (some 16) rfl rfl Try.func12 (by kernel_rfl) rfl #[.int .u64 1, .int .i64 60, .int .i64 5] rfl (by (try simp only [List.map_toArray, List.map_cons, List.map_nil]); first | done | rfl | (simp only [List.length_drop, List.length_take]; rfl)) ?_; (with_reducible refine (bits_Field.calls 1 60 5 t118 false _ A3.out).mono ?_); rintro e w' ⟨rfl, ⟨nd, rfl⟩⟩; refine ⟨_, rfl, ?_⟩) | (go_at_call 16; (with_reducible refine (bits_Sign.calls 255 8 t120 _ A9.out).mono ?_); rintro e w' ⟨rfl, ⟨nd, rfl⟩⟩) | (go_at_call 18; (with_reducible refine (bits_Fits.calls (-1) 1 true _ A11.out).mono ?_); rintro e w' ⟨rfl, ⟨nd, rfl⟩⟩) | (go_at_call 18; (with_reducible refine (bits_Fits.calls 1 1 false _ A13.out).mono ?_); rintro e w' ⟨rfl, ⟨nd, rfl⟩⟩) | (go_at_call 20; (with_reducible refine (bits_FitsU.calls 1 1 true _ A15.out).mono ?_); rintro e w' ⟨rfl, ⟨nd, rfl⟩⟩) | (go_at_call 22; (with_reducible refine (bits_Bytes.calls k 258 2 t124 _ A17.out).mono ?_); rintro e w19 ⟨v125, rfl, ho0, hb⟩; have n0_ := Aside0.mk (Kd.R_lower ho0 (below_size (by repeat (first | (with_reducible first | exact HB.out | apply below_alloc | apply pw_below_drewN | apply below_drew1) | exact HB.out)))); have n1_ := Aside0.mk (below_step (by repeat (first | (with_reducible first | exact HB.out | apply below_alloc | apply pw_below_drewN | apply below_drew1) | exact HB.out)) hb); clear HB; have HO126 := n0_; have HB := n1_; clear n0_ n1_; (try clear hb); (try clear hb2); (try clear hk); (try clear hi); (try clear ho0)) | ((with_reducible refine gate_dst (N := 51) rfl ?_); (try (refine gate_guard (by rfl) ?_; dsimp only)); refine Kd.R_lit (Kd.int .u8) _ 5 ?hg (N := 51) ?hd (xs := ([2, 1] : List Int)) (inner := [.int .u8 2, .int .u8 1]) (ok := fun _ => True) (okp := fun _ => True) ?hr ?hp (fun _ hk => hk) trivial (Below.refl _ _) (Nat.le_refl _) (by simp) ?_; (case hd => rfl); (case hg => rfl); (case hr => first | (go_simp; done) | (go_simp; rfl)); (case hp => exact (Reps.one (show Kd.M (Kd.int .u8) _ _ _ 2 [.int .u8 2] from rfl) (Reps.one (show Kd.M (Kd.int .u8) _ _ _ 1 [.int .u8 1] from rfl) (Reps.none _ _)))); intro v128 w20 ho21 hb hg_ hnew_; clear hg_ hnew_; (first | rw [← Ny127.out] at ho21 | (simp only [Int.reduceToNat] at ho21; rw [← Ny127.out] at ho21)); have n0_ := Aside0.mk (Kd.R_elder' (by (with_reducible repeat (first | apply Kd.R_alloc | apply Kd.R_drewN | apply Kd.R_drew)); exact HO126.out) (Kd.R_base ho21) hb); have n1_ := Aside0.mk (Kd.R_lower (Kd.R_new' ho21 (Kd.R_lt (by (with_reducible repeat (first | apply Kd.R_alloc | apply Kd.R_drewN | apply Kd.R_drew)); exact HO126.out))) (below_size (by repeat (first | (with_reducible first | exact HB.out | apply below_alloc | apply pw_below_drewN | apply below_drew1) | exact HB.out)))); have n2_ := Aside0.mk (below_step (by repeat (first | (with_reducible first | exact HB.out | apply below_alloc | apply pw_below_drewN | apply below_drew1) | exact HB.out)) hb); clear HO126; clear HB; have HO126 := n0_; have HO129 := n1_; have HB := n2_; clear n0_ n1_ n2_; clear hb ho21; obtain ⟨Ao22, co22, eo22⟩ := Kd.R_slice HO126.out; subst eo22; obtain ⟨Ao23, co23, eo23⟩ := Kd.R_slice HO129.out; subst eo23) | (go_at_call 25; (with_reducible refine (caponierref01_Same.calls k _ _ t124 _ _ y127 t130 _ ?side1 ?side2 ?side3 ?side4 A18.out).mono ?_); (case side1 => repeat (first | exact (Kd.R_reads' HO126.out).2.2 | (with_reducible refine Kd.C_alloc ?_ _) | (with_reducible refine Kd.C_drewN ?_ _) | (with_reducible refine Kd.C_drew ?_))); (case side2 => exact (Kd.R_reads' HO126.out).2.1); (case side3 => repeat (first | exact (Kd.R_reads' HO129.out).2.2 | (with_reducible refine Kd.C_alloc ?_ _) | (with_reducible refine Kd.C_drewN ?_ _) | (with_reducible refine Kd.C_drew ?_))); (case side4 => exact (Kd.R_reads' HO129.out).2.1); rintro e w' ⟨rfl, ⟨nd, rfl⟩⟩))
                    go_ret
                    exact ⟨by first | rfl | (simp [errW_none, errW_some] <;> rfl) | (simp [*, errW_none, errW_some] <;> rfl), by repeat (first | (with_reducible first | exact HB.out | apply below_alloc | apply pw_below_drewN | apply below_drew1) | exact HB.out)⟩
                  · replace c16 := Bool.eq_false_iff.mpr c16
                    subst c16
                    have H1 : (some false) = some r := by rw [if_neg (show ¬ (false = true) by decide)] at H; exact H
                    clear H
                    have H := H1
                    clear H1
                    obtain rfl := Option.some.inj H
                    go_enter Try.func11, Try.ntmps11
                    go_wp2_with (first | ((with_reducible refine gate_callee (f := 12) rfl ?_); refine goesL_ (some 8) rfl rfl Try.func12 (by kernel_rfl) rfl #[.int .u64 43981, .int .i64 4, .int .i64 8] rfl (by (try simp only [List.map_toArray, List.map_cons, List.map_nil]); first | done | rfl | (simp only [List.length_drop, List.length_take]; rfl)) ?_; (with_reducible refine (bits_Field.calls 43981 4 8 t114 true _ A1.out).mono ?_); rintro e w' ⟨rfl, ⟨nd, rfl⟩⟩; refine ⟨_, rfl, ?_⟩) | ((with_reducible refine gate_callee (f := 14) rfl ?_); refine goesL_ (some 12) rfl rfl Try.func14 (by kernel_rfl) rfl #[.int .u64 43981, .int .i64 4, .int .i64 8, .int .u64 274] rfl (by (try simp only [List.map_toArray, List.map_cons, List.map_nil]); first | done | rfl | (simp only [List.length_drop, List.length_take]; rfl)) ?_; (with_reducible refine (bits_Put.calls 43981 4 8 274 t116 true _ A2.out).mono ?_); rintro e w' ⟨rfl, ⟨nd, rfl⟩⟩; refine ⟨_, rfl, ?_⟩) | ((with_reducible refine gate_callee (f := 12) rfl ?_); refine goesL_ (some 16) rfl rfl Try.func12 (by kernel_rfl) rfl #[.int .u64 1, .int .i64 60, .int .i64 5] rfl (by (try simp only [List.map_toArray, List.map_cons, List.map_nil]); first | done | rfl | (simp only [List.length_drop, List.length_take]; rfl)) ?_; (with_reducible refine (bits_Field.calls 1 60 5 t118 false _ A3.out).mono ?_); rintro e w' ⟨rfl, ⟨nd, rfl⟩⟩; refine ⟨_, rfl, ?_⟩) | (go_at_call 16; (with_reducible refine (bits_Sign.calls 255 8 t120 _ A9.out).mono ?_); rintro e w' ⟨rfl, ⟨nd, rfl⟩⟩) | (go_at_call 18; (with_reducible refine (bits_Fits.calls (-1) 1 true _ A11.out).mono ?_); rintro e w' ⟨rfl, ⟨nd, rfl⟩⟩) | (go_at_call 18; (with_reducible refine (bits_Fits.calls 1 1 false _ A13.out).mono ?_); rintro e w' ⟨rfl, ⟨nd, rfl⟩⟩) | (go_at_call 20; (with_reducible refine (bits_FitsU.calls 1 1 false _ A15.out).mono ?_); rintro e w' ⟨rfl, ⟨nd, rfl⟩⟩))
                    go_ret
                    exact ⟨by first | rfl | (simp [errW_none, errW_some] <;> rfl) | (simp [*, errW_none, errW_some] <;> rfl), by repeat (first | (with_reducible first | exact HB.out | apply below_alloc | apply pw_below_drewN | apply below_drew1) | exact HB.out)⟩
              · replace c12 := Bool.eq_false_iff.mpr c12
                subst c12
                have H1 : (some false) = some r := by rw [if_neg (show ¬ (false = true) by decide)] at H; exact H
                clear H
                have H := H1
                clear H1
                obtain rfl := Option.some.inj H
                go_enter Try.func11, Try.ntmps11
                go_wp2_with (first | ((with_reducible refine gate_callee (f := 12) rfl ?_); refine goesL_ (some 8) rfl rfl Try.func12 (by kernel_rfl) rfl #[.int .u64 43981, .int .i64 4, .int .i64 8] rfl (by (try simp only [List.map_toArray, List.map_cons, List.map_nil]); first | done | rfl | (simp only [List.length_drop, List.length_take]; rfl)) ?_; (with_reducible refine (bits_Field.calls 43981 4 8 t114 true _ A1.out).mono ?_); rintro e w' ⟨rfl, ⟨nd, rfl⟩⟩; refine ⟨_, rfl, ?_⟩) | ((with_reducible refine gate_callee (f := 14) rfl ?_); refine goesL_ (some 12) rfl rfl Try.func14 (by kernel_rfl) rfl #[.int .u64 43981, .int .i64 4, .int .i64 8, .int .u64 274] rfl (by (try simp only [List.map_toArray, List.map_cons, List.map_nil]); first | done | rfl | (simp only [List.length_drop, List.length_take]; rfl)) ?_; (with_reducible refine (bits_Put.calls 43981 4 8 274 t116 true _ A2.out).mono ?_); rintro e w' ⟨rfl, ⟨nd, rfl⟩⟩; refine ⟨_, rfl, ?_⟩) | ((with_reducible refine gate_callee (f := 12) rfl ?_); refine goesL_ (some 16) rfl rfl Try.func12 (by kernel_rfl) rfl #[.int .u64 1, .int .i64 60, .int .i64 5] rfl (by (try simp only [List.map_toArray, List.map_cons, List.map_nil]); first | done | rfl | (simp only [List.length_drop, List.length_take]; rfl)) ?_; (with_reducible refine (bits_Field.calls 1 60 5 t118 false _ A3.out).mono ?_); rintro e w' ⟨rfl, ⟨nd, rfl⟩⟩; refine ⟨_, rfl, ?_⟩) | (go_at_call 16; (with_reducible refine (bits_Sign.calls 255 8 t120 _ A9.out).mono ?_); rintro e w' ⟨rfl, ⟨nd, rfl⟩⟩) | (go_at_call 18; (with_reducible refine (bits_Fits.calls (-1) 1 false _ A11.out).mono ?_); rintro e w' ⟨rfl, ⟨nd, rfl⟩⟩))
                go_ret
                exact ⟨by first | rfl | (simp [errW_none, errW_some] <;> rfl) | (simp [*, errW_none, errW_some] <;> rfl), by repeat (first | (with_reducible first | exact HB.out | apply below_alloc | apply pw_below_drewN | apply below_drew1) | exact HB.out)⟩
            · rw [if_neg c10] at H
              have c10b0 : (t120 == (-1)) = false := beq_eq_false_iff_ne.mpr c10
              have c10b1 : (t120 != (-1)) = true := bne_iff_ne.mpr c10
              obtain rfl := Option.some.inj H
              go_enter Try.func11, Try.ntmps11
              go_wp2_with (first | ((with_reducible refine gate_callee (f := 12) rfl ?_); refine goesL_ (some 8) rfl rfl Try.func12 (by kernel_rfl) rfl #[.int .u64 43981, .int .i64 4, .int .i64 8] rfl (by (try simp only [List.map_toArray, List.map_cons, List.map_nil]); first | done | rfl | (simp only [List.length_drop, List.length_take]; rfl)) ?_; (with_reducible refine (bits_Field.calls 43981 4 8 t114 true _ A1.out).mono ?_); rintro e w' ⟨rfl, ⟨nd, rfl⟩⟩; refine ⟨_, rfl, ?_⟩) | ((with_reducible refine gate_callee (f := 14) rfl ?_); refine goesL_ (some 12) rfl rfl Try.func14 (by kernel_rfl) rfl #[.int .u64 43981, .int .i64 4, .int .i64 8, .int .u64 274] rfl (by (try simp only [List.map_toArray, List.map_cons, List.map_nil]); first | done | rfl | (simp only [List.length_drop, List.length_take]; rfl)) ?_; (with_reducible refine (bits_Put.calls 43981 4 8 274 t116 true _ A2.out).mono ?_); rintro e w' ⟨rfl, ⟨nd, rfl⟩⟩; refine ⟨_, rfl, ?_⟩) | ((with_reducible refine gate_callee (f := 12) rfl ?_); refine goesL_ (some 16) rfl rfl Try.func12 (by kernel_rfl) rfl #[.int .u64 1, .int .i64 60, .int .i64 5] rfl (by (try simp only [List.map_toArray, List.map_cons, List.map_nil]); first | done | rfl | (simp only [List.length_drop, List.length_take]; rfl)) ?_; (with_reducible refine (bits_Field.calls 1 60 5 t118 false _ A3.out).mono ?_); rintro e w' ⟨rfl, ⟨nd, rfl⟩⟩; refine ⟨_, rfl, ?_⟩) | (go_at_call 16; (with_reducible refine (bits_Sign.calls 255 8 t120 _ A9.out).mono ?_); rintro e w' ⟨rfl, ⟨nd, rfl⟩⟩))
              go_ret
              exact ⟨by first | rfl | (simp [errW_none, errW_some] <;> rfl) | (simp [*, errW_none, errW_some] <;> rfl), by repeat (first | (with_reducible first | exact HB.out | apply below_alloc | apply pw_below_drewN | apply below_drew1) | exact HB.out)⟩
        · replace c7 := Bool.eq_false_iff.mpr c7
          subst c7
          have H1 : (some false) = some r := by rw [if_neg (show ¬ (false = true) by decide)] at H; exact H
          clear H
          have H := H1
          clear H1
          obtain rfl := Option.some.inj H
          go_enter Try.func11, Try.ntmps11
          go_wp2_with (first | ((with_reducible refine gate_callee (f := 12) rfl ?_); refine goesL_ (some 8) rfl rfl Try.func12 (by kernel_rfl) rfl #[.int .u64 43981, .int .i64 4, .int .i64 8] rfl (by (try simp only [List.map_toArray, List.map_cons, List.map_nil]); first | done | rfl | (simp only [List.length_drop, List.length_take]; rfl)) ?_; (with_reducible refine (bits_Field.calls 43981 4 8 t114 true _ A1.out).mono ?_); rintro e w' ⟨rfl, ⟨nd, rfl⟩⟩; refine ⟨_, rfl, ?_⟩) | ((with_reducible refine gate_callee (f := 14) rfl ?_); refine goesL_ (some 12) rfl rfl Try.func14 (by kernel_rfl) rfl #[.int .u64 43981, .int .i64 4, .int .i64 8, .int .u64 274] rfl (by (try simp only [List.map_toArray, List.map_cons, List.map_nil]); first | done | rfl | (simp only [List.length_drop, List.length_take]; rfl)) ?_; (with_reducible refine (bits_Put.calls 43981 4 8 274 t116 false _ A2.out).mono ?_); rintro e w' ⟨rfl, ⟨nd, rfl⟩⟩; refine ⟨_, rfl, ?_⟩) | ((with_reducible refine gate_callee (f := 12) rfl ?_); refine goesL_ (some 16) rfl rfl Try.func12 (by kernel_rfl) rfl #[.int .u64 1, .int .i64 60, .int .i64 5] rfl (by (try simp only [List.map_toArray, List.map_cons, List.map_nil]); first | done | rfl | (simp only [List.length_drop, List.length_take]; rfl)) ?_; (with_reducible refine (bits_Field.calls 1 60 5 t118 t119 _ A3.out).mono ?_); rintro e w' ⟨rfl, ⟨nd, rfl⟩⟩; refine ⟨_, rfl, ?_⟩))
          go_ret
          exact ⟨by first | rfl | (simp [errW_none, errW_some] <;> rfl) | (simp [*, errW_none, errW_some] <;> rfl), by repeat (first | (with_reducible first | exact HB.out | apply below_alloc | apply pw_below_drewN | apply below_drew1) | exact HB.out)⟩
      · rw [if_neg c6] at H
        have c6b0 : (t116 == 41261) = false := beq_eq_false_iff_ne.mpr c6
        have c6b1 : (t116 != 41261) = true := bne_iff_ne.mpr c6
        obtain rfl := Option.some.inj H
        go_enter Try.func11, Try.ntmps11
        go_wp2_with (first | ((with_reducible refine gate_callee (f := 12) rfl ?_); refine goesL_ (some 8) rfl rfl Try.func12 (by kernel_rfl) rfl #[.int .u64 43981, .int .i64 4, .int .i64 8] rfl (by (try simp only [List.map_toArray, List.map_cons, List.map_nil]); first | done | rfl | (simp only [List.length_drop, List.length_take]; rfl)) ?_; (with_reducible refine (bits_Field.calls 43981 4 8 t114 true _ A1.out).mono ?_); rintro e w' ⟨rfl, ⟨nd, rfl⟩⟩; refine ⟨_, rfl, ?_⟩) | ((with_reducible refine gate_callee (f := 14) rfl ?_); refine goesL_ (some 12) rfl rfl Try.func14 (by kernel_rfl) rfl #[.int .u64 43981, .int .i64 4, .int .i64 8, .int .u64 274] rfl (by (try simp only [List.map_toArray, List.map_cons, List.map_nil]); first | done | rfl | (simp only [List.length_drop, List.length_take]; rfl)) ?_; (with_reducible refine (bits_Put.calls 43981 4 8 274 t116 t117 _ A2.out).mono ?_); rintro e w' ⟨rfl, ⟨nd, rfl⟩⟩; refine ⟨_, rfl, ?_⟩) | ((with_reducible refine gate_callee (f := 12) rfl ?_); refine goesL_ (some 16) rfl rfl Try.func12 (by kernel_rfl) rfl #[.int .u64 1, .int .i64 60, .int .i64 5] rfl (by (try simp only [List.map_toArray, List.map_cons, List.map_nil]); first | done | rfl | (simp only [List.length_drop, List.length_take]; rfl)) ?_; (with_reducible refine (bits_Field.calls 1 60 5 t118 t119 _ A3.out).mono ?_); rintro e w' ⟨rfl, ⟨nd, rfl⟩⟩; refine ⟨_, rfl, ?_⟩))
        go_ret
        exact ⟨by first | rfl | (simp [errW_none, errW_some] <;> rfl) | (simp [*, errW_none, errW_some] <;> rfl), by repeat (first | (with_reducible first | exact HB.out | apply below_alloc | apply pw_below_drewN | apply below_drew1) | exact HB.out)⟩
    · replace c5 := Bool.eq_false_iff.mpr c5
      subst c5
      have H1 : (some false) = some r := by rw [if_neg (show ¬ (false = true) by decide)] at H; exact H
      clear H
      have H := H1
      clear H1
      obtain rfl := Option.some.inj H
      go_enter Try.func11, Try.ntmps11
      go_wp2_with (first | ((with_reducible refine gate_callee (f := 12) rfl ?_); refine goesL_ (some 8) rfl rfl Try.func12 (by kernel_rfl) rfl #[.int .u64 43981, .int .i64 4, .int .i64 8] rfl (by (try simp only [List.map_toArray, List.map_cons, List.map_nil]); first | done | rfl | (simp only [List.length_drop, List.length_take]; rfl)) ?_; (with_reducible refine (bits_Field.calls 43981 4 8 t114 false _ A1.out).mono ?_); rintro e w' ⟨rfl, ⟨nd, rfl⟩⟩; refine ⟨_, rfl, ?_⟩) | ((with_reducible refine gate_callee (f := 14) rfl ?_); refine goesL_ (some 12) rfl rfl Try.func14 (by kernel_rfl) rfl #[.int .u64 43981, .int .i64 4, .int .i64 8, .int .u64 274] rfl (by (try simp only [List.map_toArray, List.map_cons, List.map_nil]); first | done | rfl | (simp only [List.length_drop, List.length_take]; rfl)) ?_; (with_reducible refine (bits_Put.calls 43981 4 8 274 t116 t117 _ A2.out).mono ?_); rintro e w' ⟨rfl, ⟨nd, rfl⟩⟩; refine ⟨_, rfl, ?_⟩) | ((with_reducible refine gate_callee (f := 12) rfl ?_); refine goesL_ (some 16) rfl rfl Try.func12 (by kernel_rfl) rfl #[.int .u64 1, .int .i64 60, .int .i64 5] rfl (by (try simp only [List.map_toArray, List.map_cons, List.map_nil]); first | done | rfl | (simp only [List.length_drop, List.length_take]; rfl)) ?_; (with_reducible refine (bits_Field.calls 1 60 5 t118 t119 _ A3.out).mono ?_); rintro e w' ⟨rfl, ⟨nd, rfl⟩⟩; refine ⟨_, rfl, ?_⟩))
      go_ret
      exact ⟨by first | rfl | (simp [errW_none, errW_some] <;> rfl) | (simp [*, errW_none, errW_some] <;> rfl), by repeat (first | (with_reducible first | exact HB.out | apply below_alloc | apply pw_below_drewN | apply below_drew1) | exact HB.out)⟩
  · rw [if_neg c4] at H
    have c4b0 : (t114 == 188) = false := beq_eq_false_iff_ne.mpr c4
    have c4b1 : (t114 != 188) = true := bne_iff_ne.mpr c4
    obtain rfl := Option.some.inj H
    go_enter Try.func11, Try.ntmps11
    go_wp2_with (first | ((with_reducible refine gate_callee (f := 12) rfl ?_); refine goesL_ (some 8) rfl rfl Try.func12 (by kernel_rfl) rfl #[.int .u64 43981, .int .i64 4, .int .i64 8] rfl (by (try simp only [List.map_toArray, List.map_cons, List.map_nil]); first | done | rfl | (simp only [List.length_drop, List.length_take]; rfl)) ?_; (with_reducible refine (bits_Field.calls 43981 4 8 t114 t115 _ A1.out).mono ?_); rintro e w' ⟨rfl, ⟨nd, rfl⟩⟩; refine ⟨_, rfl, ?_⟩) | ((with_reducible refine gate_callee (f := 14) rfl ?_); refine goesL_ (some 12) rfl rfl Try.func14 (by kernel_rfl) rfl #[.int .u64 43981, .int .i64 4, .int .i64 8, .int .u64 274] rfl (by (try simp only [List.map_toArray, List.map_cons, List.map_nil]); first | done | rfl | (simp only [List.length_drop, List.length_take]; rfl)) ?_; (with_reducible refine (bits_Put.calls 43981 4 8 274 t116 t117 _ A2.out).mono ?_); rintro e w' ⟨rfl, ⟨nd, rfl⟩⟩; refine ⟨_, rfl, ?_⟩) | ((with_reducible refine gate_callee (f := 12) rfl ?_); refine goesL_ (some 16) rfl rfl Try.func12 (by kernel_rfl) rfl #[.int .u64 1, .int .i64 60, .int .i64 5] rfl (by (try simp only [List.map_toArray, List.map_cons, List.map_nil]); first | done | rfl | (simp only [List.length_drop, List.length_take]; rfl)) ?_; (with_reducible refine (bits_Field.calls 1 60 5 t118 t119 _ A3.out).mono ?_); rintro e w' ⟨rfl, ⟨nd, rfl⟩⟩; refine ⟨_, rfl, ?_⟩))
    go_ret
    exact ⟨by first | rfl | (simp [errW_none, errW_some] <;> rfl) | (simp [*, errW_none, errW_some] <;> rfl), by repeat (first | (with_reducible first | exact HB.out | apply below_alloc | apply pw_below_drewN | apply below_drew1) | exact HB.out)⟩

/-! ### caponierlaw01_BitsRange: function 6 -/
def caponierlaw01_BitsRange.f (k : Nat) (a0 : Int) (a1 : Int) : Option (Bool) := (caponierlaw01_awake.f k).bind fun t131 => (if t131 = true then (if 0 ≤ (IntKind.u64.wrap (wrap64 ((wrap64 (1 + (Int.tmod (wrap64 (a1)) 63))) - 1))) then ((bits_Sign.f a0 (wrap64 (1 + (Int.tmod (wrap64 (a1)) 63)))).bind fun t132 => (if t132 ≥ (wrap64 (-(shl .i64 1 (IntKind.u64.wrap (wrap64 ((wrap64 (1 + (Int.tmod (wrap64 (a1)) 63))) - 1)))))) then (if t132 < (shl .i64 1 (IntKind.u64.wrap (wrap64 ((wrap64 (1 + (Int.tmod (wrap64 (a1)) 63))) - 1)))) then ((bits_Fits.f (wrap64 (a0)) (wrap64 (1 + (Int.tmod (wrap64 (a1)) 63)))).bind fun t133 => (if (wrap64 (a0)) ≥ (wrap64 (-(shl .i64 1 (IntKind.u64.wrap (wrap64 ((wrap64 (1 + (Int.tmod (wrap64 (a1)) 63))) - 1)))))) then (if (t133 == (decide ((wrap64 (a0)) < (shl .i64 1 (IntKind.u64.wrap (wrap64 ((wrap64 (1 + (Int.tmod (wrap64 (a1)) 63))) - 1))))))) = true then ((bits_FitsU.f a0 (wrap64 (1 + (Int.tmod (wrap64 (a1)) 63)))).bind fun t134 => (if (t134 == (decide (a0 < (IntKind.u64.wrap ((IntKind.u64.wrap (shl .i64 1 (IntKind.u64.wrap (wrap64 ((wrap64 (1 + (Int.tmod (wrap64 (a1)) 63))) - 1))))) * 2))))) = true then ((bits_Fits.f (wrap64 (a0)) 64).bind fun t135 => (if t135 = true then ((bits_FitsU.f a0 64).bind fun t136 => (some t136)) else (some false))) else (some false))) else (some false)) else (if (t133 == false) = true then ((bits_FitsU.f a0 (wrap64 (1 + (Int.tmod (wrap64 (a1)) 63)))).bind fun t137 => (if (t137 == (decide (a0 < (IntKind.u64.wrap ((IntKind.u64.wrap (shl .i64 1 (IntKind.u64.wrap (wrap64 ((wrap64 (1 + (Int.tmod (wrap64 (a1)) 63))) - 1))))) * 2))))) = true then ((bits_Fits.f (wrap64 (a0)) 64).bind fun t138 => (if t138 = true then ((bits_FitsU.f a0 64).bind fun t139 => (some t139)) else (some false))) else (some false))) else (some false)))) else (some false)) else (some false))) else (none)) else (some false))
theorem caponierlaw01_BitsRange.mono : ∀ a0 a1 k, LeO (caponierlaw01_BitsRange.f k a0 a1) (caponierlaw01_BitsRange.f (k + 1) a0 a1) := by
  intro a0 a1 k
  unfold caponierlaw01_BitsRange.f
  repeat' first
      | (with_reducible exact caponierlaw01_awake.mono _)
      | (with_reducible exact LeO.refl _)
      | (with_reducible exact LeO.none _)
      | (with_reducible refine LeO.ite ?_ ?_)
      | (with_reducible refine LeO.bind ?_ (fun _ => ?_))
      | exact caponierlaw01_awake.mono _
      | exact LeO.none _
      | refine LeO.ite ?_ ?_
      | refine LeO.bind ?_ (fun _ => ?_)
set_option maxHeartbeats 8000000 in
set_option maxRecDepth 100000 in
theorem caponierlaw01_BitsRange.calls (k : Nat) (a0 : Int) (a1 : Int) (r : Bool) (w : World) (h : caponierlaw01_BitsRange.f k a0 a1 = some r) :
    Calls Try.prog 6 #[.int .u64 a0, .int .u8 a1] w fun e w' => e = .returned (.bool r) ∧ Below w.heap.size w w' := by
  have HB := Aside0.mk (Below.refl w.heap.size w)
  have H : ((caponierlaw01_awake.f k).bind fun t131 => (if t131 = true then (if 0 ≤ (IntKind.u64.wrap (wrap64 ((wrap64 (1 + (Int.tmod (wrap64 (a1)) 63))) - 1))) then ((bits_Sign.f a0 (wrap64 (1 + (Int.tmod (wrap64 (a1)) 63)))).bind fun t132 => (if t132 ≥ (wrap64 (-(shl .i64 1 (IntKind.u64.wrap (wrap64 ((wrap64 (1 + (Int.tmod (wrap64 (a1)) 63))) - 1)))))) then (if t132 < (shl .i64 1 (IntKind.u64.wrap (wrap64 ((wrap64 (1 + (Int.tmod (wrap64 (a1)) 63))) - 1)))) then ((bits_Fits.f (wrap64 (a0)) (wrap64 (1 + (Int.tmod (wrap64 (a1)) 63)))).bind fun t133 => (if (wrap64 (a0)) ≥ (wrap64 (-(shl .i64 1 (IntKind.u64.wrap (wrap64 ((wrap64 (1 + (Int.tmod (wrap64 (a1)) 63))) - 1)))))) then (if (t133 == (decide ((wrap64 (a0)) < (shl .i64 1 (IntKind.u64.wrap (wrap64 ((wrap64 (1 + (Int.tmod (wrap64 (a1)) 63))) - 1))))))) = true then ((bits_FitsU.f a0 (wrap64 (1 + (Int.tmod (wrap64 (a1)) 63)))).bind fun t134 => (if (t134 == (decide (a0 < (IntKind.u64.wrap ((IntKind.u64.wrap (shl .i64 1 (IntKind.u64.wrap (wrap64 ((wrap64 (1 + (Int.tmod (wrap64 (a1)) 63))) - 1))))) * 2))))) = true then ((bits_Fits.f (wrap64 (a0)) 64).bind fun t135 => (if t135 = true then ((bits_FitsU.f a0 64).bind fun t136 => (some t136)) else (some false))) else (some false))) else (some false)) else (if (t133 == false) = true then ((bits_FitsU.f a0 (wrap64 (1 + (Int.tmod (wrap64 (a1)) 63)))).bind fun t137 => (if (t137 == (decide (a0 < (IntKind.u64.wrap ((IntKind.u64.wrap (shl .i64 1 (IntKind.u64.wrap (wrap64 ((wrap64 (1 + (Int.tmod (wrap64 (a1)) 63))) - 1))))) * 2))))) = true then ((bits_Fits.f (wrap64 (a0)) 64).bind fun t138 => (if t138 = true then ((bits_FitsU.f a0 64).bind fun t139 => (some t139)) else (some false))) else (some false))) else (some false)))) else (some false)) else (some false))) else (none)) else (some false))) = some r := h
  clear h
  replace H := Option.bind_eq_some_iff.mp H
  obtain ⟨t131, A30, H⟩ := H
  replace H : (if t131 = true then (if 0 ≤ (IntKind.u64.wrap (wrap64 ((wrap64 (1 + (Int.tmod (wrap64 (a1)) 63))) - 1))) then ((bits_Sign.f a0 (wrap64 (1 + (Int.tmod (wrap64 (a1)) 63)))).bind fun t132 => (if t132 ≥ (wrap64 (-(shl .i64 1 (IntKind.u64.wrap (wrap64 ((wrap64 (1 + (Int.tmod (wrap64 (a1)) 63))) - 1)))))) then (if t132 < (shl .i64 1 (IntKind.u64.wrap (wrap64 ((wrap64 (1 + (Int.tmod (wrap64 (a1)) 63))) - 1)))) then ((bits_Fits.f (wrap64 (a0)) (wrap64 (1 + (Int.tmod (wrap64 (a1)) 63)))).bind fun t133 => (if (wrap64 (a0)) ≥ (wrap64 (-(shl .i64 1 (IntKind.u64.wrap (wrap64 ((wrap64 (1 + (Int.tmod (wrap64 (a1)) 63))) - 1)))))) then (if (t133 == (decide ((wrap64 (a0)) < (shl .i64 1 (IntKind.u64.wrap (wrap64 ((wrap64 (1 + (Int.tmod (wrap64 (a1)) 63))) - 1))))))) = true then ((bits_FitsU.f a0 (wrap64 (1 + (Int.tmod (wrap64 (a1)) 63)))).bind fun t134 => (if (t134 == (decide (a0 < (IntKind.u64.wrap ((IntKind.u64.wrap (shl .i64 1 (IntKind.u64.wrap (wrap64 ((wrap64 (1 + (Int.tmod (wrap64 (a1)) 63))) - 1))))) * 2))))) = true then ((bits_Fits.f (wrap64 (a0)) 64).bind fun t135 => (if t135 = true then ((bits_FitsU.f a0 64).bind fun t136 => (some t136)) else (some false))) else (some false))) else (some false)) else (if (t133 == false) = true then ((bits_FitsU.f a0 (wrap64 (1 + (Int.tmod (wrap64 (a1)) 63)))).bind fun t137 => (if (t137 == (decide (a0 < (IntKind.u64.wrap ((IntKind.u64.wrap (shl .i64 1 (IntKind.u64.wrap (wrap64 ((wrap64 (1 + (Int.tmod (wrap64 (a1)) 63))) - 1))))) * 2))))) = true then ((bits_Fits.f (wrap64 (a0)) 64).bind fun t138 => (if t138 = true then ((bits_FitsU.f a0 64).bind fun t139 => (some t139)) else (some false))) else (some false))) else (some false)))) else (some false)) else (some false))) else (none)) else (some false)) = some r := H
  have A3 := Aside0.mk A30
  clear A30
  by_cases c4 : t131 = true
  · subst c4
    have H1 : (if 0 ≤ (IntKind.u64.wrap (wrap64 ((wrap64 (1 + (Int.tmod (wrap64 (a1)) 63))) - 1))) then ((bits_Sign.f a0 (wrap64 (1 + (Int.tmod (wrap64 (a1)) 63)))).bind fun t132 => (if t132 ≥ (wrap64 (-(shl .i64 1 (IntKind.u64.wrap (wrap64 ((wrap64 (1 + (Int.tmod (wrap64 (a1)) 63))) - 1)))))) then (if t132 < (shl .i64 1 (IntKind.u64.wrap (wrap64 ((wrap64 (1 + (Int.tmod (wrap64 (a1)) 63))) - 1)))) then ((bits_Fits.f (wrap64 (a0)) (wrap64 (1 + (Int.tmod (wrap64 (a1)) 63)))).bind fun t133 => (if (wrap64 (a0)) ≥ (wrap64 (-(shl .i64 1 (IntKind.u64.wrap (wrap64 ((wrap64 (1 + (Int.tmod (wrap64 (a1)) 63))) - 1)))))) then (if (t133 == (decide ((wrap64 (a0)) < (shl .i64 1 (IntKind.u64.wrap (wrap64 ((wrap64 (1 + (Int.tmod (wrap64 (a1)) 63))) - 1))))))) = true then ((bits_FitsU.f a0 (wrap64 (1 + (Int.tmod (wrap64 (a1)) 63)))).bind fun t134 => (if (t134 == (decide (a0 < (IntKind.u64.wrap ((IntKind.u64.wrap (shl .i64 1 (IntKind.u64.wrap (wrap64 ((wrap64 (1 + (Int.tmod (wrap64 (a1)) 63))) - 1))))) * 2))))) = true then ((bits_Fits.f (wrap64 (a0)) 64).bind fun t135 => (if t135 = true then ((bits_FitsU.f a0 64).bind fun t136 => (some t136)) else (some false))) else (some false))) else (some false)) else (if (t133 == false) = true then ((bits_FitsU.f a0 (wrap64 (1 + (Int.tmod (wrap64 (a1)) 63)))).bind fun t137 => (if (t137 == (decide (a0 < (IntKind.u64.wrap ((IntKind.u64.wrap (shl .i64 1 (IntKind.u64.wrap (wrap64 ((wrap64 (1 + (Int.tmod (wrap64 (a1)) 63))) - 1))))) * 2))))) = true then ((bits_Fits.f (wrap64 (a0)) 64).bind fun t138 => (if t138 = true then ((bits_FitsU.f a0 64).bind fun t139 => (some t139)) else (some false))) else (some false))) else (some false)))) else (some false)) else (some false))) else (none)) = some r := by rw [if_pos rfl] at H; exact H
    clear H
    have H := H1
    clear H1
    obtain ⟨ji5, hji5⟩ : ∃ j_ : Int, (IntKind.u64.wrap (wrap64 ((wrap64 (1 + (Int.tmod (wrap64 (a1)) 63))) - 1))) = j_ := ⟨_, rfl⟩
    replace H : (if 0 ≤ (ji5) then ((bits_Sign.f a0 (wrap64 (1 + (Int.tmod (wrap64 (a1)) 63)))).bind fun t132 => (if t132 ≥ (wrap64 (-(shl .i64 1 (ji5)))) then (if t132 < (shl .i64 1 (ji5)) then ((bits_Fits.f (wrap64 (a0)) (wrap64 (1 + (Int.tmod (wrap64 (a1)) 63)))).bind fun t133 => (if (wrap64 (a0)) ≥ (wrap64 (-(shl .i64 1 (ji5)))) then (if (t133 == (decide ((wrap64 (a0)) < (shl .i64 1 (ji5))))) = true then ((bits_FitsU.f a0 (wrap64 (1 + (Int.tmod (wrap64 (a1)) 63)))).bind fun t134 => (if (t134 == (decide (a0 < (IntKind.u64.wrap ((IntKind.u64.wrap (shl .i64 1 (ji5))) * 2))))) = true then ((bits_Fits.f (wrap64 (a0)) 64).bind fun t135 => (if t135 = true then ((bits_FitsU.f a0 64).bind fun t136 => (some t136)) else (some false))) else (some false))) else (some false)) else (if (t133 == false) = true then ((bits_FitsU.f a0 (wrap64 (1 + (Int.tmod (wrap64 (a1)) 63)))).bind fun t137 => (if (t137 == (decide (a0 < (IntKind.u64.wrap ((IntKind.u64.wrap (shl .i64 1 (ji5))) * 2))))) = true then ((bits_Fits.f (wrap64 (a0)) 64).bind fun t138 => (if t138 = true then ((bits_FitsU.f a0 64).bind fun t139 => (some t139)) else (some false))) else (some false))) else (some false)))) else (some false)) else (some false))) else (none)) = some r := by first | (rw [hji5] at H; exact H) | (simp only [hji5] at H ⊢; exact H)
    (try rw [hji5] at A3)
    by_cases c6 : 0 ≤ (ji5)
    · rw [if_pos c6] at H
      have c6b0 := eq_true c6
      have c6b1 : decide (0 ≤ (ji5)) = true := decide_eq_true c6
      clear c6
      obtain ⟨ji7, hji7⟩ : ∃ j_ : Int, (shl .i64 1 (ji5)) = j_ := ⟨_, rfl⟩
      replace H : ((bits_Sign.f a0 (wrap64 (1 + (Int.tmod (wrap64 (a1)) 63)))).bind fun t132 => (if t132 ≥ (wrap64 (-(ji7))) then (if t132 < (ji7) then ((bits_Fits.f (wrap64 (a0)) (wrap64 (1 + (Int.tmod (wrap64 (a1)) 63)))).bind fun t133 => (if (wrap64 (a0)) ≥ (wrap64 (-(ji7))) then (if (t133 == (decide ((wrap64 (a0)) < (ji7)))) = true then ((bits_FitsU.f a0 (wrap64 (1 + (Int.tmod (wrap64 (a1)) 63)))).bind fun t134 => (if (t134 == (decide (a0 < (IntKind.u64.wrap ((IntKind.u64.wrap (ji7)) * 2))))) = true then ((bits_Fits.f (wrap64 (a0)) 64).bind fun t135 => (if t135 = true then ((bits_FitsU.f a0 64).bind fun t136 => (some t136)) else (some false))) else (some false))) else (some false)) else (if (t133 == false) = true then ((bits_FitsU.f a0 (wrap64 (1 + (Int.tmod (wrap64 (a1)) 63)))).bind fun t137 => (if (t137 == (decide (a0 < (IntKind.u64.wrap ((IntKind.u64.wrap (ji7)) * 2))))) = true then ((bits_Fits.f (wrap64 (a0)) 64).bind fun t138 => (if t138 = true then ((bits_FitsU.f a0 64).bind fun t139 => (some t139)) else (some false))) else (some false))) else (some false)))) else (some false)) else (some false))) = some r := by first | (rw [hji7] at H; exact H) | (simp only [hji7] at H ⊢; exact H)
      (try rw [hji7] at A3)
      have hji7_ : (IntKind.i64.wrap (1 * 2 ^ min (ji5).toNat 64)) = ji7 := hji7
      have hji7z : (ji5) ≤ 64 → (IntKind.i64.wrap (1 * 2 ^ (ji5).toNat)) = ji7 := shl_small hji7
      have hji7u : (IntKind.i64.wrap (2 ^ min (ji5).toNat 64)) = ji7 := by have h_ := hji7_; rw [Int.one_mul] at h_; exact h_
      have hji7v : (ji5) ≤ 64 → (IntKind.i64.wrap (2 ^ (ji5).toNat)) = ji7 := fun hle_ => by have h_ := hji7z hle_; rw [Int.one_mul] at h_; exact h_
      have hji7y : (wrap64 (1 * 2 ^ min (ji5).toNat 64)) = ji7 := (i64_w _).symm.trans hji7_
      have hji7x : (ji5) ≤ 64 → (wrap64 (1 * 2 ^ (ji5).toNat)) = ji7 := fun h_ => (i64_w _).symm.trans (hji7z h_)
      replace H := Option.bind_eq_some_iff.mp H
      obtain ⟨t132, A80, H⟩ := H
      replace H : (if t132 ≥ (wrap64 (-(ji7))) then (if t132 < (ji7) then ((bits_Fits.f (wrap64 (a0)) (wrap64 (1 + (Int.tmod (wrap64 (a1)) 63)))).bind fun t133 => (if (wrap64 (a0)) ≥ (wrap64 (-(ji7))) then (if (t133 == (decide ((wrap64 (a0)) < (ji7)))) = true then ((bits_FitsU.f a0 (wrap64 (1 + (Int.tmod (wrap64 (a1)) 63)))).bind fun t134 => (if (t134 == (decide (a0 < (IntKind.u64.wrap ((IntKind.u64.wrap (ji7)) * 2))))) = true then ((bits_Fits.f (wrap64 (a0)) 64).bind fun t135 => (if t135 = true then ((bits_FitsU.f a0 64).bind fun t136 => (some t136)) else (some false))) else (some false))) else (some false)) else (if (t133 == false) = true then ((bits_FitsU.f a0 (wrap64 (1 + (Int.tmod (wrap64 (a1)) 63)))).bind fun t137 => (if (t137 == (decide (a0 < (IntKind.u64.wrap ((IntKind.u64.wrap (ji7)) * 2))))) = true then ((bits_Fits.f (wrap64 (a0)) 64).bind fun t138 => (if t138 = true then ((bits_FitsU.f a0 64).bind fun t139 => (some t139)) else (some false))) else (some false))) else (some false)))) else (some false)) else (some false)) = some r := H
      have A8 := Aside0.mk A80
      clear A80
      by_cases c9 : t132 ≥ (wrap64 (-(ji7)))
      · rw [if_pos c9] at H
        have c9b0 : decide ((wrap64 (-(ji7))) ≤ t132) = true := decide_eq_true c9
        clear c9
        by_cases c10 : t132 < (ji7)
        · rw [if_pos c10] at H
          have c10b0 : decide (t132 < (ji7)) = true := decide_eq_true c10
          clear c10
          replace H := Option.bind_eq_some_iff.mp H
          obtain ⟨t133, A110, H⟩ := H
          replace H : (if (wrap64 (a0)) ≥ (wrap64 (-(ji7))) then (if (t133 == (decide ((wrap64 (a0)) < (ji7)))) = true then ((bits_FitsU.f a0 (wrap64 (1 + (Int.tmod (wrap64 (a1)) 63)))).bind fun t134 => (if (t134 == (decide (a0 < (IntKind.u64.wrap ((IntKind.u64.wrap (ji7)) * 2))))) = true then ((bits_Fits.f (wrap64 (a0)) 64).bind fun t135 => (if t135 = true then ((bits_FitsU.f a0 64).bind fun t136 => (some t136)) else (some false))) else (some false))) else (some false)) else (if (t133 == false) = true then ((bits_FitsU.f a0 (wrap64 (1 + (Int.tmod (wrap64 (a1)) 63)))).bind fun t137 => (if (t137 == (decide (a0 < (IntKind.u64.wrap ((IntKind.u64.wrap (ji7)) * 2))))) = true then ((bits_Fits.f (wrap64 (a0)) 64).bind fun t138 => (if t138 = true then ((bits_FitsU.f a0 64).bind fun t139 => (some t139)) else (some false))) else (some false))) else (some false))) = some r := H
          have A11 := Aside0.mk A110
          clear A110
          by_cases c12 : (wrap64 (a0)) ≥ (wrap64 (-(ji7)))
          · rw [if_pos c12] at H
            have c12b0 : decide ((wrap64 (-(ji7))) ≤ (wrap64 (a0))) = true := decide_eq_true c12
            clear c12
            by_cases c13 : (t133 == (decide ((wrap64 (a0)) < (ji7)))) = true
            · rw [if_pos c13] at H
              have c13b0 : (t133 == (decide ((wrap64 (a0)) < (ji7)))) = true := c13
              (try (have c13b1 : decide (t133 = (decide ((wrap64 (a0)) < (ji7)))) = true := by simpa using c13))
              (try (have c13b2 : (t133 == (decide ((wrap64 (a0)) < (ji7)))) = true := by simpa using c13))
              clear c13
              replace H := Option.bind_eq_some_iff.mp H
              obtain ⟨t134, A140, H⟩ := H
              replace H : (if (t134 == (decide (a0 < (IntKind.u64.wrap ((IntKind.u64.wrap (ji7)) * 2))))) = true then ((bits_Fits.f (wrap64 (a0)) 64).bind fun t135 => (if t135 = true then ((bits_FitsU.f a0 64).bind fun t136 => (some t136)) else (some false))) else (some false)) = some r := H
              have A14 := Aside0.mk A140
              clear A140
              by_cases c15 : (t134 == (decide (a0 < (IntKind.u64.wrap ((IntKind.u64.wrap (ji7)) * 2))))) = true
              · rw [if_pos c15] at H
                have c15b0 : (t134 == (decide (a0 < (IntKind.u64.wrap ((IntKind.u64.wrap (ji7)) * 2))))) = true := c15
                (try (have c15b1 : decide (t134 = (decide (a0 < (IntKind.u64.wrap ((IntKind.u64.wrap (ji7)) * 2))))) = true := by simpa using c15))
                (try (have c15b2 : (t134 == (decide (a0 < (IntKind.u64.wrap ((IntKind.u64.wrap (ji7)) * 2))))) = true := by simpa using c15))
                clear c15
                replace H := Option.bind_eq_some_iff.mp H
                obtain ⟨t135, A160, H⟩ := H
                replace H : (if t135 = true then ((bits_FitsU.f a0 64).bind fun t136 => (some t136)) else (some false)) = some r := H
                have A16 := Aside0.mk A160
                clear A160
                by_cases c17 : t135 = true
                · subst c17
                  have H1 : ((bits_FitsU.f a0 64).bind fun t136 => (some t136)) = some r := by rw [if_pos rfl] at H; exact H
                  clear H
                  have H := H1
                  clear H1
                  replace H := Option.bind_eq_some_iff.mp H
                  obtain ⟨t136, A180, H⟩ := H
                  replace H : (some t136) = some r := H
                  have A18 := Aside0.mk A180
                  clear A180
                  obtain rfl := Option.some.inj H
                  go_enter Try.func6, Try.ntmps6
                  go_wp2_with (first | ((with_reducible refine gate_callee (f := 11) rfl ?_); refine goesL_ (some 9) rfl rfl Try.func11 (by kernel_rfl) rfl #[] rfl (by (try simp only [List.map_toArray, List.map_cons, List.map_nil]); first | done | rfl | (simp only [List.length_drop, List.length_take]; rfl)) ?_; (with_reducible refine (caponierlaw01_awake.calls k  true _ A3.out).mono ?_); rintro e w19 ⟨rfl, hb⟩; refine ⟨_, rfl, ?_⟩; have n0_ := Aside0.mk (below_step (by repeat (first | (with_reducible first | exact HB.out | apply below_alloc | apply pw_below_drewN | apply below_drew1) | exact HB.out)) hb); clear HB; have HB := n0_; clear n0_; (try clear hb); (try clear hb2); (try clear hk); (try clear hi)) | ((with_reducible refine gate_callee (f := 16) rfl ?_); refine goesL_ (some 21) rfl rfl Try.func16 (by kernel_rfl) rfl #[.int .u64 a0, .int .i64 (wrap64 (1 + (Int.tmod (wrap64 (a1)) 63)))] rfl (by (try simp only [List.map_toArray, List.map_cons, List.map_nil]); first | done | rfl | (simp only [List.length_drop, List.length_take]; rfl)) ?_; (with_reducible refine (bits_Sign.calls a0 (wrap64 (1 + (Int.tmod (wrap64 (a1)) 63))) t132 _ A8.out).mono ?_); rintro e w' ⟨rfl, ⟨nd, rfl⟩⟩; refine ⟨_, rfl, ?_⟩) | (go_at_call 18; (with_reducible refine (bits_Fits.calls (wrap64 (a0)) (wrap64 (1 + (Int.tmod (wrap64 (a1)) 63))) t133 _ A11.out).mono ?_); rintro e w' ⟨rfl, ⟨nd, rfl⟩⟩) | (go_at_call 20; (with_reducible refine (bits_FitsU.calls a0 (wrap64 (1 + (Int.tmod (wrap64 (a1)) 63))) t134 _ A14.out).mono ?_); rintro e w' ⟨rfl, ⟨nd, rfl⟩⟩) | (go_at_call 18; (with_reducible refine (bits_Fits.calls (wrap64 (a0)) 64 true _ A16.out).mono ?_); rintro e w' ⟨rfl, ⟨nd, rfl⟩⟩) | (go_at_call 20; (with_reducible refine (bits_FitsU.calls a0 64 t136 _ A18.out).mono ?_); rintro e w' ⟨rfl, ⟨nd, rfl⟩⟩))
                  go_ret
                  exact ⟨by first | rfl | (simp [errW_none, errW_some] <;> rfl) | (simp only [← hji5, ← hji7]; first | rfl | (simp [errW_none, errW_some] <;> rfl)) | (simp [*, errW_none, errW_some] <;> rfl), by repeat (first | (with_reducible first | exact HB.out | apply below_alloc | apply pw_below_drewN | apply below_drew1) | exact HB.out)⟩
                · replace c17 := Bool.eq_false_iff.mpr c17
                  subst c17
                  have H1 : (some false) = some r := by rw [if_neg (show ¬ (false = true) by decide)] at H; exact H
                  clear H
                  have H := H1
                  clear H1
                  obtain rfl := Option.some.inj H
                  go_enter Try.func6, Try.ntmps6
                  go_wp2_with (first | ((with_reducible refine gate_callee (f := 11) rfl ?_); refine goesL_ (some 9) rfl rfl Try.func11 (by kernel_rfl) rfl #[] rfl (by (try simp only [List.map_toArray, List.map_cons, List.map_nil]); first | done | rfl | (simp only [List.length_drop, List.length_take]; rfl)) ?_; (with_reducible refine (caponierlaw01_awake.calls k  true _ A3.out).mono ?_); rintro e w20 ⟨rfl, hb⟩; refine ⟨_, rfl, ?_⟩; have n0_ := Aside0.mk (below_step (by repeat (first | (with_reducible first | exact HB.out | apply below_alloc | apply pw_below_drewN | apply below_drew1) | exact HB.out)) hb); clear HB; have HB := n0_; clear n0_; (try clear hb); (try clear hb2); (try clear hk); (try clear hi)) | ((with_reducible refine gate_callee (f := 16) rfl ?_); refine goesL_ (some 21) rfl rfl Try.func16 (by kernel_rfl) rfl #[.int .u64 a0, .int .i64 (wrap64 (1 + (Int.tmod (wrap64 (a1)) 63)))] rfl (by (try simp only [List.map_toArray, List.map_cons, List.map_nil]); first | done | rfl | (simp only [List.length_drop, List.length_take]; rfl)) ?_; (with_reducible refine (bits_Sign.calls a0 (wrap64 (1 + (Int.tmod (wrap64 (a1)) 63))) t132 _ A8.out).mono ?_); rintro e w' ⟨rfl, ⟨nd, rfl⟩⟩; refine ⟨_, rfl, ?_⟩) | (go_at_call 18; (with_reducible refine (bits_Fits.calls (wrap64 (a0)) (wrap64 (1 + (Int.tmod (wrap64 (a1)) 63))) t133 _ A11.out).mono ?_); rintro e w' ⟨rfl, ⟨nd, rfl⟩⟩) | (go_at_call 20; (with_reducible refine (bits_FitsU.calls a0 (wrap64 (1 + (Int.tmod (wrap64 (a1)) 63))) t134 _ A14.out).mono ?_); rintro e w' ⟨rfl, ⟨nd, rfl⟩⟩) | (go_at_call 18; (with_reducible refine (bits_Fits.calls (wrap64 (a0)) 64 false _ A16.out).mono ?_); rintro e w' ⟨rfl, ⟨nd, rfl⟩⟩))
                  go_ret
                  exact ⟨by first | rfl | (simp [errW_none, errW_some] <;> rfl) | (simp only [← hji5, ← hji7]; first | rfl | (simp [errW_none, errW_some] <;> rfl)) | (simp [*, errW_none, errW_some] <;> rfl), by repeat (first | (with_reducible first | exact HB.out | apply below_alloc | apply pw_below_drewN | apply below_drew1) | exact HB.out)⟩
              · rw [if_neg c15] at H
                have c15b0 : (t134 == (decide (a0 < (IntKind.u64.wrap ((IntKind.u64.wrap (ji7)) * 2))))) = false := by simpa using c15
                (try (have c15b1 : decide (t134 = (decide (a0 < (IntKind.u64.wrap ((IntKind.u64.wrap (ji7)) * 2))))) = false := by simpa using c15))
                (try (have c15b2 : (t134 == (decide (a0 < (IntKind.u64.wrap ((IntKind.u64.wrap (ji7)) * 2))))) = false := by simpa using c15))
                (try (have c15b3 : ¬ (t134 = (decide (a0 < (IntKind.u64.wrap ((IntKind.u64.wrap (ji7)) * 2))))) := by simpa using c15))
                clear c15
                obtain rfl := Option.some.inj H
                go_enter Try.func6, Try.ntmps6
                go_wp2_with (first | ((with_reducible refine gate_callee (f := 11) rfl ?_); refine goesL_ (some 9) rfl rfl Try.func11 (by kernel_rfl) rfl #[] rfl (by (try simp only [List.map_toArray, List.map_cons, List.map_nil]); first | done | rfl | (simp only [List.length_drop, List.length_take]; rfl)) ?_; (with_reducible refine (caponierlaw01_awake.calls k  true _ A3.out).mono ?_); rintro e w21 ⟨rfl, hb⟩; refine ⟨_, rfl, ?_⟩; have n0_ := Aside0.mk (below_step (by repeat (first | (with_reducible first | exact HB.out | apply below_alloc | apply pw_below_drewN | apply below_drew1) | exact HB.out)) hb); clear HB; have HB := n0_; clear n0_; (try clear hb); (try clear hb2); (try clear hk); (try clear hi)) | ((with_reducible refine gate_callee (f := 16) rfl ?_); refine goesL_ (some 21) rfl rfl Try.func16 (by kernel_rfl) rfl #[.int .u64 a0, .int .i64 (wrap64 (1 + (Int.tmod (wrap64 (a1)) 63)))] rfl (by (try simp only [List.map_toArray, List.map_cons, List.map_nil]); first | done | rfl | (simp only [List.length_drop, List.length_take]; rfl)) ?_; (with_reducible refine (bits_Sign.calls a0 (wrap64 (1 + (Int.tmod (wrap64 (a1)) 63))) t132 _ A8.out).mono ?_); rintro e w' ⟨rfl, ⟨nd, rfl⟩⟩; refine ⟨_, rfl, ?_⟩) | (go_at_call 18; (with_reducible refine (bits_Fits.calls (wrap64 (a0)) (wrap64 (1 + (Int.tmod (wrap64 (a1)) 63))) t133 _ A11.out).mono ?_); rintro e w' ⟨rfl, ⟨nd, rfl⟩⟩) | (go_at_call 20; (with_reducible refine (bits_FitsU.calls a0 (wrap64 (1 + (Int.tmod (wrap64 (a1)) 63))) t134 _ A14.out).mono ?_); rintro e w' ⟨rfl, ⟨nd, rfl⟩⟩))
                go_ret
                exact ⟨by first | rfl | (simp [errW_none, errW_some] <;> rfl) | (simp only [← hji5, ← hji7]; first | rfl | (simp [errW_none, errW_some] <;> rfl)) | (simp [*, errW_none, errW_some] <;> rfl), by repeat (first | (with_reducible first | exact HB.out | apply below_alloc | apply pw_below_drewN | apply below_drew1) | exact HB.out)⟩
            · rw [if_neg c13] at H
              have c13b0 : (t133 == (decide ((wrap64 (a0)) < (ji7)))) = false := by simpa using c13
              (try (have c13b1 : decide (t133 = (decide ((wrap64 (a0)) < (ji7)))) = false := by simpa using c13))
              (try (have c13b2 : (t133 == (decide ((wrap64 (a0)) < (ji7)))) = false := by simpa using c13))
              (try (have c13b3 : ¬ (t133 = (decide ((wrap64 (a0)) < (ji7)))) := by simpa using c13))
              clear c13
              obtain rfl := Option.some.inj H
              go_enter Try.func6, Try.ntmps6
              go_wp2_with (first | ((with_reducible refine gate_callee (f := 11) rfl ?_); refine goesL_ (some 9) rfl rfl Try.func11 (by kernel_rfl) rfl #[] rfl (by (try simp only [List.map_toArray, List.map_cons, List.map_nil]); first | done | rfl | (simp only [List.length_drop, List.length_take]; rfl)) ?_; (with_reducible refine (caponierlaw01_awake.calls k  true _ A3.out).mono ?_); rintro e w22 ⟨rfl, hb⟩; refine ⟨_, rfl, ?_⟩; have n0_ := Aside0.mk (below_step (by repeat (first | (with_reducible first | exact HB.out | apply below_alloc | apply pw_below_drewN | apply below_drew1) | exact HB.out)) hb); clear HB; have HB := n0_; clear n0_; (try clear hb); (try clear hb2); (try clear hk); (try clear hi)) | ((with_reducible refine gate_callee (f := 16) rfl ?_); refine goesL_ (some 21) rfl rfl Try.func16 (by kernel_rfl) rfl #[.int .u64 a0, .int .i64 (wrap64 (1 + (Int.tmod (wrap64 (a1)) 63)))] rfl (by (try simp only [List.map_toArray, List.map_cons, List.map_nil]); first | done | rfl | (simp only [List.length_drop, List.length_take]; rfl)) ?_; (with_reducible refine (bits_Sign.calls a0 (wrap64 (1 + (Int.tmod (wrap64 (a1)) 63))) t132 _ A8.out).mono ?_); rintro e w' ⟨rfl, ⟨nd, rfl⟩⟩; refine ⟨_, rfl, ?_⟩) | (go_at_call 18; (with_reducible refine (bits_Fits.calls (wrap64 (a0)) (wrap64 (1 + (Int.tmod (wrap64 (a1)) 63))) t133 _ A11.out).mono ?_); rintro e w' ⟨rfl, ⟨nd, rfl⟩⟩))
              go_ret
              exact ⟨by first | rfl | (simp [errW_none, errW_some] <;> rfl) | (simp only [← hji5, ← hji7]; first | rfl | (simp [errW_none, errW_some] <;> rfl)) | (simp [*, errW_none, errW_some] <;> rfl), by repeat (first | (with_reducible first | exact HB.out | apply below_alloc | apply pw_below_drewN | apply below_drew1) | exact HB.out)⟩
          · rw [if_neg c12] at H
            have c12b0 : decide ((wrap64 (-(ji7))) ≤ (wrap64 (a0))) = false := decide_eq_false c12
            clear c12
            by_cases c23 : (t133 == false) = true
            · rw [if_pos c23] at H
              have c23b0 : (t133 == false) = true := c23
              (try (have c23b1 : decide (t133 = false) = true := by simpa using c23))
              (try (have c23b2 : (t133 == false) = true := by simpa using c23))
              clear c23
              replace H := Option.bind_eq_some_iff.mp H
              obtain ⟨t137, A240, H⟩ := H
              replace H : (if (t137 == (decide (a0 < (IntKind.u64.wrap ((IntKind.u64.wrap (ji7)) * 2))))) = true then ((bits_Fits.f (wrap64 (a0)) 64).bind fun t138 => (if t138 = true then ((bits_FitsU.f a0 64).bind fun t139 => (some t139)) else (some false))) else (some false)) = some r := H
              have A24 := Aside0.mk A240
              clear A240
              by_cases c25 : (t137 == (decide (a0 < (IntKind.u64.wrap ((IntKind.u64.wrap (ji7)) * 2))))) = true
              · rw [if_pos c25] at H
                have c25b0 : (t137 == (decide (a0 < (IntKind.u64.wrap ((IntKind.u64.wrap (ji7)) * 2))))) = true := c25
                (try (have c25b1 : decide (t137 = (decide (a0 < (IntKind.u64.wrap ((IntKind.u64.wrap (ji7)) * 2))))) = true := by simpa using c25))
                (try (have c25b2 : (t137 == (decide (a0 < (IntKind.u64.wrap ((IntKind.u64.wrap (ji7)) * 2))))) = true := by simpa using c25))
                clear c25
                replace H := Option.bind_eq_some_iff.mp H
                obtain ⟨t138, A260, H⟩ := H
                replace H : (if t138 = true then ((bits_FitsU.f a0 64).bind fun t139 => (some t139)) else (some false)) = some r := H
                have A26 := Aside0.mk A260
                clear A260
                by_cases c27 : t138 = true
                · subst c27
                  have H1 : ((bits_FitsU.f a0 64).bind fun t139 => (some t139)) = some r := by rw [if_pos rfl] at H; exact H
                  clear H
                  have H := H1
                  clear H1
                  replace H := Option.bind_eq_some_iff.mp H
                  obtain ⟨t139, A280, H⟩ := H
                  replace H : (some t139) = some r := H
                  have A28 := Aside0.mk A280
                  clear A280
                  obtain rfl := Option.some.inj H
                  go_enter Try.func6, Try.ntmps6
                  go_wp2_with (first | ((with_reducible refine gate_callee (f := 11) rfl ?_); refine goesL_ (some 9) rfl rfl Try.func11 (by kernel_rfl) rfl #[] rfl (by (try simp only [List.map_toArray, List.map_cons, List.map_nil]); first | done | rfl | (simp only [List.length_drop, List.length_take]; rfl)) ?_; (with_reducible refine (caponierlaw01_awake.calls k  true _ A3.out).mono ?_); rintro e w29 ⟨rfl, hb⟩; refine ⟨_, rfl, ?_⟩; have n0_ := Aside0.mk (below_step (by repeat (first | (with_reducible first | exact HB.out | apply below_alloc | apply pw_below_drewN | apply below_drew1) | exact HB.out)) hb); clear HB; have HB := n0_; clear n0_; (try clear hb); (try clear hb2); (try clear hk); (try clear hi)) | ((with_reducible refine gate_callee (f := 16) rfl ?_); refine goesL_ (some 21) rfl rfl Try.func16 (by kernel_rfl) rfl #[.int .u64 a0, .int .i64 (wrap64 (1 + (Int.tmod (wrap64 (a1)) 63)))] rfl (by (try simp only [List.map_toArray, List.map_cons, List.map_nil]); first | done | rfl | (simp only [List.length_drop, List.length_take]; rfl)) ?_; (with_reducible refine (bits_Sign.calls a0 (wrap64 (1 + (Int.tmod (wrap64 (a1)) 63))) t132 _ A8.out).mono ?_); rintro e w' ⟨rfl, ⟨nd, rfl⟩⟩; refine ⟨_, rfl, ?_⟩) | (go_at_call 18; (with_reducible refine (bits_Fits.calls (wrap64 (a0)) (wrap64 (1 + (Int.tmod (wrap64 (a1)) 63))) t133 _ A11.out).mono ?_); rintro e w' ⟨rfl, ⟨nd, rfl⟩⟩) | (go_at_call 20; (with_reducible refine (bits_FitsU.calls a0 (wrap64 (1 + (Int.tmod (wrap64 (a1)) 63))) t137 _ A24.out).mono ?_); rintro e w' ⟨rfl, ⟨nd, rfl⟩⟩) | (go_at_call 18; (with_reducible refine (bits_Fits.calls (wrap64 (a0)) 64 true _ A26.out).mono ?_); rintro e w' ⟨rfl, ⟨nd, rfl⟩⟩) | (go_at_call 20; (with_reducible refine (bits_FitsU.calls a0 64 t139 _ A28.out).mono ?_); rintro e w' ⟨rfl, ⟨nd, rfl⟩⟩))
                  go_ret
                  exact ⟨by first | rfl | (simp [errW_none, errW_some] <;> rfl) | (simp only [← hji5, ← hji7]; first | rfl | (simp [errW_none, errW_some] <;> rfl)) | (simp [*, errW_none, errW_some] <;> rfl), by repeat (first | (with_reducible first | exact HB.out | apply below_alloc | apply pw_below_drewN | apply below_drew1) | exact HB.out)⟩
                · replace c27 := Bool.eq_false_iff.mpr c27
                  subst c27
                  have H1 : (some false) = some r := by rw [if_neg (show ¬ (false = true) by decide)] at H; exact H
                  clear H
                  have H := H1
                  clear H1
                  obtain rfl := Option.some.inj H
                  go_enter Try.func6, Try.ntmps6
                  go_wp2_with (first | ((with_reducible refine gate_callee (f := 11) rfl ?_); refine goesL_ (some 9) rfl rfl Try.func11 (by kernel_rfl) rfl #[] rfl (by (try simp only [List.map_toArray, List.map_cons, List.map_nil]); first | done | rfl | (simp only [List.length_drop, List.length_take]; rfl)) ?_; (with_reducible refine (caponierlaw01_awake.calls k  true _ A3.out).mono ?_); rintro e w30 ⟨rfl, hb⟩; refine ⟨_, rfl, ?_⟩; have n0_ := Aside0.mk (below_step (by repeat (first | (with_reducible first | exact HB.out | apply below_alloc | apply pw_below_drewN | apply below_drew1) | exact HB.out)) hb); clear HB; have HB := n0_; clear n0_; (try clear hb); (try clear hb2); (try clear hk); (try clear hi)) | ((with_reducible refine gate_callee (f := 16) rfl ?_); refine goesL_ (some 21) rfl rfl Try.func16 (by kernel_rfl) rfl #[.int .u64 a0, .int .i64 (wrap64 (1 + (Int.tmod (wrap64 (a1)) 63)))] rfl (by (try simp only [List.map_toArray, List.map_cons, List.map_nil]); first | done | rfl | (simp only [List.length_drop, List.length_take]; rfl)) ?_; (with_reducible refine (bits_Sign.calls a0 (wrap64 (1 + (Int.tmod (wrap64 (a1)) 63))) t132 _ A8.out).mono ?_); rintro e w' ⟨rfl, ⟨nd, rfl⟩⟩; refine ⟨_, rfl, ?_⟩) | (go_at_call 18; (with_reducible refine (bits_Fits.calls (wrap64 (a0)) (wrap64 (1 + (Int.tmod (wrap64 (a1)) 63))) t133 _ A11.out).mono ?_); rintro e w' ⟨rfl, ⟨nd, rfl⟩⟩) | (go_at_call 20; (with_reducible refine (bits_FitsU.calls a0 (wrap64 (1 + (Int.tmod (wrap64 (a1)) 63))) t137 _ A24.out).mono ?_); rintro e w' ⟨rfl, ⟨nd, rfl⟩⟩) | (go_at_call 18; (with_reducible refine (bits_Fits.calls (wrap64 (a0)) 64 false _ A26.out).mono ?_); rintro e w' ⟨rfl, ⟨nd, rfl⟩⟩))
                  go_ret
                  exact ⟨by first | rfl | (simp [errW_none, errW_some] <;> rfl) | (simp only [← hji5, ← hji7]; first | rfl | (simp [errW_none, errW_some] <;> rfl)) | (simp [*, errW_none, errW_some] <;> rfl), by repeat (first | (with_reducible first | exact HB.out | apply below_alloc | apply pw_below_drewN | apply below_drew1) | exact HB.out)⟩
              · rw [if_neg c25] at H
                have c25b0 : (t137 == (decide (a0 < (IntKind.u64.wrap ((IntKind.u64.wrap (ji7)) * 2))))) = false := by simpa using c25
                (try (have c25b1 : decide (t137 = (decide (a0 < (IntKind.u64.wrap ((IntKind.u64.wrap (ji7)) * 2))))) = false := by simpa using c25))
                (try (have c25b2 : (t137 == (decide (a0 < (IntKind.u64.wrap ((IntKind.u64.wrap (ji7)) * 2))))) = false := by simpa using c25))
                (try (have c25b3 : ¬ (t137 = (decide (a0 < (IntKind.u64.wrap ((IntKind.u64.wrap (ji7)) * 2))))) := by simpa using c25))
                clear c25
                obtain rfl := Option.some.inj H
                go_enter Try.func6, Try.ntmps6
                go_wp2_with (first | ((with_reducible refine gate_callee (f := 11) rfl ?_); refine goesL_ (some 9) rfl rfl Try.func11 (by kernel_rfl) rfl #[] rfl (by (try simp only [List.map_toArray, List.map_cons, List.map_nil]); first | done | rfl | (simp only [List.length_drop, List.length_take]; rfl)) ?_; (with_reducible refine (caponierlaw01_awake.calls k  true _ A3.out).mono ?_); rintro e w31 ⟨rfl, hb⟩; refine ⟨_, rfl, ?_⟩; have n0_ := Aside0.mk (below_step (by repeat (first | (with_reducible first | exact HB.out | apply below_alloc | apply pw_below_drewN | apply below_drew1) | exact HB.out)) hb); clear HB; have HB := n0_; clear n0_; (try clear hb); (try clear hb2); (try clear hk); (try clear hi)) | ((with_reducible refine gate_callee (f := 16) rfl ?_); refine goesL_ (some 21) rfl rfl Try.func16 (by kernel_rfl) rfl #[.int .u64 a0, .int .i64 (wrap64 (1 + (Int.tmod (wrap64 (a1)) 63)))] rfl (by (try simp only [List.map_toArray, List.map_cons, List.map_nil]); first | done | rfl | (simp only [List.length_drop, List.length_take]; rfl)) ?_; (with_reducible refine (bits_Sign.calls a0 (wrap64 (1 + (Int.tmod (wrap64 (a1)) 63))) t132 _ A8.out).mono ?_); rintro e w' ⟨rfl, ⟨nd, rfl⟩⟩; refine ⟨_, rfl, ?_⟩) | (go_at_call 18; (with_reducible refine (bits_Fits.calls (wrap64 (a0)) (wrap64 (1 + (Int.tmod (wrap64 (a1)) 63))) t133 _ A11.out).mono ?_); rintro e w' ⟨rfl, ⟨nd, rfl⟩⟩) | (go_at_call 20; (with_reducible refine (bits_FitsU.calls a0 (wrap64 (1 + (Int.tmod (wrap64 (a1)) 63))) t137 _ A24.out).mono ?_); rintro e w' ⟨rfl, ⟨nd, rfl⟩⟩))
                go_ret
                exact ⟨by first | rfl | (simp [errW_none, errW_some] <;> rfl) | (simp only [← hji5, ← hji7]; first | rfl | (simp [errW_none, errW_some] <;> rfl)) | (simp [*, errW_none, errW_some] <;> rfl), by repeat (first | (with_reducible first | exact HB.out | apply below_alloc | apply pw_below_drewN | apply below_drew1) | exact HB.out)⟩
            · rw [if_neg c23] at H
              have c23b0 : (t133 == false) = false := by simpa using c23
              (try (have c23b1 : decide (t133 = false) = false := by simpa using c23))
              (try (have c23b2 : (t133 == false) = false := by simpa using c23))
              (try (have c23b3 : ¬ (t133 = false) := by simpa using c23))
              clear c23
              obtain rfl := Option.some.inj H
              go_enter Try.func6, Try.ntmps6
              go_wp2_with (first | ((with_reducible refine gate_callee (f := 11) rfl ?_); refine goesL_ (some 9) rfl rfl Try.func11 (by kernel_rfl) rfl #[] rfl (by (try simp only [List.map_toArray, List.map_cons, List.map_nil]); first | done | rfl | (simp only [List.length_drop, List.length_take]; rfl)) ?_; (with_reducible refine (caponierlaw01_awake.calls k  true _ A3.out).mono ?_); rintro e w32 ⟨rfl, hb⟩; refine ⟨_, rfl, ?_⟩; have n0_ := Aside0.mk (below_step (by repeat (first | (with_reducible first | exact HB.out | apply below_alloc | apply pw_below_drewN | apply below_drew1) | exact HB.out)) hb); clear HB; have HB := n0_; clear n0_; (try clear hb); (try clear hb2); (try clear hk); (try clear hi)) | ((with_reducible refine gate_callee (f := 16) rfl ?_); refine goesL_ (some 21) rfl rfl Try.func16 (by kernel_rfl) rfl #[.int .u64 a0, .int .i64 (wrap64 (1 + (Int.tmod (wrap64 (a1)) 63)))] rfl (by (try simp only [List.map_toArray, List.map_cons, List.map_nil]); first | done | rfl | (simp only [List.length_drop, List.length_take]; rfl)) ?_; (with_reducible refine (bits_Sign.calls a0 (wrap64 (1 + (Int.tmod (wrap64 (a1)) 63))) t132 _ A8.out).mono ?_); rintro e w' ⟨rfl, ⟨nd, rfl⟩⟩; refine ⟨_, rfl, ?_⟩) | (go_at_call 18; (with_reducible refine (bits_Fits.calls (wrap64 (a0)) (wrap64 (1 + (Int.tmod (wrap64 (a1)) 63))) t133 _ A11.out).mono ?_); rintro e w' ⟨rfl, ⟨nd, rfl⟩⟩))
              go_ret
              exact ⟨by first | rfl | (simp [errW_none, errW_some] <;> rfl) | (simp only [← hji5, ← hji7]; first | rfl | (simp [errW_none, errW_some] <;> rfl)) | (simp [*, errW_none, errW_some] <;> rfl), by repeat (first | (with_reducible first | exact HB.out | apply below_alloc | apply pw_below_drewN | apply below_drew1) | exact HB.out)⟩
        · rw [if_neg c10] at H
          have c10b0 : decide (t132 < (ji7)) = false := decide_eq_false c10
          clear c10
          obtain rfl := Option.some.inj H
          go_enter Try.func6, Try.ntmps6
          go_wp2_with (first | ((with_reducible refine gate_callee (f := 11) rfl ?_); refine goesL_ (some 9) rfl rfl Try.func11 (by kernel_rfl) rfl #[] rfl (by (try simp only [List.map_toArray, List.map_cons, List.map_nil]); first | done | rfl | (simp only [List.length_drop, List.length_take]; rfl)) ?_; (with_reducible refine (caponierlaw01_awake.calls k  true _ A3.out).mono ?_); rintro e w33 ⟨rfl, hb⟩; refine ⟨_, rfl, ?_⟩; have n0_ := Aside0.mk (below_step (by repeat (first | (with_reducible first | exact HB.out | apply below_alloc | apply pw_below_drewN | apply below_drew1) | exact HB.out)) hb); clear HB; have HB := n0_; clear n0_; (try clear hb); (try clear hb2); (try clear hk); (try clear hi)) | ((with_reducible refine gate_callee (f := 16) rfl ?_); refine goesL_ (some 21) rfl rfl Try.func16 (by kernel_rfl) rfl #[.int .u64 a0, .int .i64 (wrap64 (1 + (Int.tmod (wrap64 (a1)) 63)))] rfl (by (try simp only [List.map_toArray, List.map_cons, List.map_nil]); first | done | rfl | (simp only [List.length_drop, List.length_take]; rfl)) ?_; (with_reducible refine (bits_Sign.calls a0 (wrap64 (1 + (Int.tmod (wrap64 (a1)) 63))) t132 _ A8.out).mono ?_); rintro e w' ⟨rfl, ⟨nd, rfl⟩⟩; refine ⟨_, rfl, ?_⟩))
          go_ret
          exact ⟨by first | rfl | (simp [errW_none, errW_some] <;> rfl) | (simp only [← hji5, ← hji7]; first | rfl | (simp [errW_none, errW_some] <;> rfl)) | (simp [*, errW_none, errW_some] <;> rfl), by repeat (first | (with_reducible first | exact HB.out | apply below_alloc | apply pw_below_drewN | apply below_drew1) | exact HB.out)⟩
      · rw [if_neg c9] at H
        have c9b0 : decide ((wrap64 (-(ji7))) ≤ t132) = false := decide_eq_false c9
        clear c9
        obtain rfl := Option.some.inj H
        go_enter Try.func6, Try.ntmps6
        go_wp2_with (first | ((with_reducible refine gate_callee (f := 11) rfl ?_); refine goesL_ (some 9) rfl rfl Try.func11 (by kernel_rfl) rfl #[] rfl (by (try simp only [List.map_toArray, List.map_cons, List.map_nil]); first | done | rfl | (simp only [List.length_drop, List.length_take]; rfl)) ?_; (with_reducible refine (caponierlaw01_awake.calls k  true _ A3.out).mono ?_); rintro e w34 ⟨rfl, hb⟩; refine ⟨_, rfl, ?_⟩; have n0_ := Aside0.mk (below_step (by repeat (first | (with_reducible first | exact HB.out | apply below_alloc | apply pw_below_drewN | apply below_drew1) | exact HB.out)) hb); clear HB; have HB := n0_; clear n0_; (try clear hb); (try clear hb2); (try clear hk); (try clear hi)) | ((with_reducible refine gate_callee (f := 16) rfl ?_); refine goesL_ (some 21) rfl rfl Try.func16 (by kernel_rfl) rfl #[.int .u64 a0, .int .i64 (wrap64 (1 + (Int.tmod (wrap64 (a1)) 63)))] rfl (by (try simp only [List.map_toArray, List.map_cons, List.map_nil]); first | done | rfl | (simp only [List.length_drop, List.length_take]; rfl)) ?_; (with_reducible refine (bits_Sign.calls a0 (wrap64 (1 + (Int.tmod (wrap64 (a1)) 63))) t132 _ A8.out).mono ?_); rintro e w' ⟨rfl, ⟨nd, rfl⟩⟩; refine ⟨_, rfl, ?_⟩))
        go_ret
        exact ⟨by first | rfl | (simp [errW_none, errW_some] <;> rfl) | (simp only [← hji5, ← hji7]; first | rfl | (simp [errW_none, errW_some] <;> rfl)) | (simp [*, errW_none, errW_some] <;> rfl), by repeat (first | (with_reducible first | exact HB.out | apply below_alloc | apply pw_below_drewN | apply below_drew1) | exact HB.out)⟩
    · rw [if_neg c6] at H
      exact absurd H (by simp)
  · replace c4 := Bool.eq_false_iff.mpr c4
    subst c4
    have H1 : (some false) = some r := by rw [if_neg (show ¬ (false = true) by decide)] at H; exact H
    clear H
    have H := H1
    clear H1
    obtain rfl := Option.some.inj H
    go_enter Try.func6, Try.ntmps6
    go_wp2_with (first | ((with_reducible refine gate_callee (f := 11) rfl ?_); refine goesL_ (some 9) rfl rfl Try.func11 (by kernel_rfl) rfl #[] rfl (by (try simp only [List.map_toArray, List.map_cons, List.map_nil]); first | done | rfl | (simp only [List.length_drop, List.length_take]; rfl)) ?_; (with_reducible refine (caponierlaw01_awake.calls k  false _ A3.out).mono ?_); rintro e w35 ⟨rfl, hb⟩; refine ⟨_, rfl, ?_⟩; have n0_ := Aside0.mk (below_step (by repeat (first | (with_reducible first | exact HB.out | apply below_alloc | apply pw_below_drewN | apply below_drew1) | exact HB.out)) hb); clear HB; have HB := n0_; clear n0_; (try clear hb); (try clear hb2); (try clear hk); (try clear hi)))
    go_ret
    exact ⟨by first | rfl | (simp [errW_none, errW_some] <;> rfl) | (simp [*, errW_none, errW_some] <;> rfl), by repeat (first | (with_reducible first | exact HB.out | apply below_alloc | apply pw_below_drewN | apply below_drew1) | exact HB.out)⟩

/-- THE ONE PURE STATEMENT of caponierlaw01_BitsRange: yours. -/
def caponierlaw01_BitsRange.Pure : Prop := ∀ (a0 : Int) (a1 : Int), (Lit.int .u64 a0).wf = true → (Lit.int .u8 a1).wf = true → ∃ k, caponierlaw01_BitsRange.f k a0 a1 = some true
theorem caponierlaw01_BitsRange.walk (P : caponierlaw01_BitsRange.Pure) (a0 : Int) (a1 : Int) (w : World) (w0 : (Lit.int .u64 a0).wf = true) (w1 : (Lit.int .u8 a1).wf = true) :
    Calls Try.prog 6 #[.int .u64 a0, .int .u8 a1] w fun e w' => e = .returned (.bool true) ∧ Below w.heap.size w w' := by
  obtain ⟨k, h⟩ := P a0 a1 w0 w1
  refine (caponierlaw01_BitsRange.calls k a0 a1 true w h).mono ?_
  rintro e w' ⟨rfl, hd⟩
  exact ⟨rfl, hd⟩

end Go.Proofs.Ytldpmehcpiamlaa.PBitsRange
