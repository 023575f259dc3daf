-- Written by a program of this session (handprint.py) out of the translation: Go functions as Lean functions, and that the Go code comes to their answers; the row of the law.
import Derived.Test.YtcjcbnhncfohmaaQAluBranchesx0
namespace Go.Proofs.Ytcjcbnhncfohmaa.QAluBranches
open Go.RowKit Go.Proofs.YtcjcbnhncfohmaaW.PrintWords Go.Proofs.YtcjcbnhncfohmaaW.PrintLast Go.Proofs.YtcjcbnhncfohmaaW.PrintMore
attribute [local go_sem] max2_int min2_int max_two min_two max_three min_three max_four min_four   -- for this text's walks alone
set_option linter.unusedVariables false
set_option linter.unusedSimpArgs false

/-! ### alu_Two: function 12 -/
def alu_Two.f (a0 : Int) (a1 : Int) (a2 : Int) : Option (Int × Bool) := Go.Proofs.Ytcjcbnhncfohmaa.Hand.twoF a0 a1 a2
theorem alu_Two.calls (a0 : Int) (a1 : Int) (a2 : Int) (r1 : Int) (r2 : Bool) (w : World) (h : alu_Two.f a0 a1 a2 = some (r1, r2)) :
    Calls Try.prog 12 #[.int .i64 a0, .int .u64 a1, .int .u64 a2] w fun e w' => e = .returned (.tuple #[.int .u64 r1, .bool r2]) ∧ Below w.heap.size w w' := Go.Proofs.Ytcjcbnhncfohmaa.Hand.two_calls a0 a1 a2 r1 r2 w h

/-! ### alu_One: function 14 -/
def alu_One.f (a0 : Int) (a1 : Int) (a2 : Int) : Option (Int × Bool) := Go.Proofs.Ytcjcbnhncfohmaa.Hand.oneF a0 a1 a2
theorem alu_One.calls (a0 : Int) (a1 : Int) (a2 : Int) (r1 : Int) (r2 : Bool) (w : World) (h : alu_One.f a0 a1 a2 = some (r1, r2)) :
    Calls Try.prog 14 #[.int .i64 a0, .int .u64 a1, .int .i64 a2] w fun e w' => e = .returned (.tuple #[.int .u64 r1, .bool r2]) ∧ Below w.heap.size w w' := Go.Proofs.Ytcjcbnhncfohmaa.Hand.one_calls a0 a1 a2 r1 r2 w h

/-! ### alu_Taken: function 16 -/
def alu_Taken.f (a0 : Int) (a1 : Int) (a2 : Int) : Option (Bool × Bool) := if a0 = 32 then (some ((a1 == a2), true)) else (if a0 = 33 then (some ((a1 != a2), true)) else (if a0 = 34 then (some (decide ((wrap64 (a1)) < (wrap64 (a2))), true)) else (if a0 = 35 then (some (decide ((wrap64 (a1)) ≥ (wrap64 (a2))), true)) else (if a0 = 36 then (some (decide (a1 < a2), true)) else (if a0 = 37 then (some (decide (a1 ≥ a2), true)) else (some (false, false)))))))
set_option maxHeartbeats 8000000 in
set_option maxRecDepth 100000 in
theorem alu_Taken.calls (a0 : Int) (a1 : Int) (a2 : Int) (r1 : Bool) (r2 : Bool) (w : World) (h : alu_Taken.f a0 a1 a2 = some (r1, r2)) :
    Calls Try.prog 16 #[.int .i64 a0, .int .u64 a1, .int .u64 a2] w fun e w' => e = .returned (.tuple #[.bool r1, .bool r2]) ∧ Drawn0 w w' := by
  have H : (if a0 = 32 then (some ((a1 == a2), true)) else (if a0 = 33 then (some ((a1 != a2), true)) else (if a0 = 34 then (some (decide ((wrap64 (a1)) < (wrap64 (a2))), true)) else (if a0 = 35 then (some (decide ((wrap64 (a1)) ≥ (wrap64 (a2))), true)) else (if a0 = 36 then (some (decide (a1 < a2), true)) else (if a0 = 37 then (some (decide (a1 ≥ a2), true)) else (some (false, false)))))))) = some (r1, r2) := h
  clear h
  by_cases c4 : a0 = 32
  · rw [if_pos c4] at H
    have c4b0 : (a0 == 32) = true := beq_iff_eq.mpr c4
    have c4b1 : (a0 != 32) = false := bne_eq_false_iff_eq.mpr c4
    clear c4
    simp only [Option.some.injEq, Prod.mk.injEq] at H
    obtain ⟨rfl, rfl⟩ := H
    go_enter Try.func16, Try.ntmps16
    go_wp2
    go_ret2
    exact ⟨by first | rfl | (simp; done) | (simp [*]; done), by repeat (first | exact Drawn0.refl _ | apply Drawn0.step)⟩
  · rw [if_neg c4] at H
    have c4b0 : (a0 == 32) = false := beq_eq_false_iff_ne.mpr c4
    have c4b1 : (a0 != 32) = true := bne_iff_ne.mpr c4
    by_cases c5 : a0 = 33
    · rw [if_pos c5] at H
      have c5b0 : (a0 == 33) = true := beq_iff_eq.mpr c5
      have c5b1 : (a0 != 33) = false := bne_eq_false_iff_eq.mpr c5
      clear c5
      simp only [Option.some.injEq, Prod.mk.injEq] at H
      obtain ⟨rfl, rfl⟩ := H
      go_enter Try.func16, Try.ntmps16
      go_wp2
      go_ret2
      exact ⟨by first | rfl | (simp; done) | (simp [*]; done), by repeat (first | exact Drawn0.refl _ | apply Drawn0.step)⟩
    · rw [if_neg c5] at H
      have c5b0 : (a0 == 33) = false := beq_eq_false_iff_ne.mpr c5
      have c5b1 : (a0 != 33) = true := bne_iff_ne.mpr c5
      by_cases c6 : a0 = 34
      · rw [if_pos c6] at H
        have c6b0 : (a0 == 34) = true := beq_iff_eq.mpr c6
        have c6b1 : (a0 != 34) = false := bne_eq_false_iff_eq.mpr c6
        clear c6
        simp only [Option.some.injEq, Prod.mk.injEq] at H
        obtain ⟨rfl, rfl⟩ := H
        go_enter Try.func16, Try.ntmps16
        go_wp2
        go_ret2
        exact ⟨by first | rfl | (simp; done) | (simp [*]; done), by repeat (first | exact Drawn0.refl _ | apply Drawn0.step)⟩
      · rw [if_neg c6] at H
        have c6b0 : (a0 == 34) = false := beq_eq_false_iff_ne.mpr c6
        have c6b1 : (a0 != 34) = true := bne_iff_ne.mpr c6
        by_cases c7 : a0 = 35
        · rw [if_pos c7] at H
          have c7b0 : (a0 == 35) = true := beq_iff_eq.mpr c7
          have c7b1 : (a0 != 35) = false := bne_eq_false_iff_eq.mpr c7
          clear c7
          simp only [Option.some.injEq, Prod.mk.injEq] at H
          obtain ⟨rfl, rfl⟩ := H
          go_enter Try.func16, Try.ntmps16
          go_wp2
          go_ret2
          exact ⟨by first | rfl | (simp; done) | (simp [*]; done), by repeat (first | exact Drawn0.refl _ | apply Drawn0.step)⟩
        · rw [if_neg c7] at H
          have c7b0 : (a0 == 35) = false := beq_eq_false_iff_ne.mpr c7
          have c7b1 : (a0 != 35) = true := bne_iff_ne.mpr c7
          by_cases c8 : a0 = 36
          · rw [if_pos c8] at H
            have c8b0 : (a0 == 36) = true := beq_iff_eq.mpr c8
            have c8b1 : (a0 != 36) = false := bne_eq_false_iff_eq.mpr c8
            clear c8
            simp only [Option.some.injEq, Prod.mk.injEq] at H
            obtain ⟨rfl, rfl⟩ := H
            go_enter Try.func16, Try.ntmps16
            go_wp2
            go_ret2
            exact ⟨by first | rfl | (simp; done) | (simp [*]; done), by repeat (first | exact Drawn0.refl _ | apply Drawn0.step)⟩
          · rw [if_neg c8] at H
            have c8b0 : (a0 == 36) = false := beq_eq_false_iff_ne.mpr c8
            have c8b1 : (a0 != 36) = true := bne_iff_ne.mpr c8
            by_cases c9 : a0 = 37
            · rw [if_pos c9] at H
              have c9b0 : (a0 == 37) = true := beq_iff_eq.mpr c9
              have c9b1 : (a0 != 37) = false := bne_eq_false_iff_eq.mpr c9
              clear c9
              simp only [Option.some.injEq, Prod.mk.injEq] at H
              obtain ⟨rfl, rfl⟩ := H
              go_enter Try.func16, Try.ntmps16
              go_wp2
              go_ret2
              exact ⟨by first | rfl | (simp; done) | (simp [*]; done), by repeat (first | exact Drawn0.refl _ | apply Drawn0.step)⟩
            · rw [if_neg c9] at H
              have c9b0 : (a0 == 37) = false := beq_eq_false_iff_ne.mpr c9
              have c9b1 : (a0 != 37) = true := bne_iff_ne.mpr c9
              simp only [Option.some.injEq, Prod.mk.injEq] at H
              obtain ⟨rfl, rfl⟩ := H
              go_enter Try.func16, Try.ntmps16
              go_wp2
              go_ret2
              exact ⟨by first | rfl | (simp; done) | (simp [*]; done), by repeat (first | exact Drawn0.refl _ | apply Drawn0.step)⟩

/-! ### alu_Varies: function 18 -/
def alu_Varies.f (a0 : Int) : Option (Bool) := if a0 ≥ 12 then (some (decide (a0 ≤ 15))) else (some false)
set_option maxHeartbeats 8000000 in
set_option maxRecDepth 100000 in
theorem alu_Varies.calls (a0 : Int) (r : Bool) (w : World) (h : alu_Varies.f a0 = some r) :
    Calls Try.prog 18 #[.int .i64 a0] w fun e w' => e = .returned (.bool r) ∧ Drawn0 w w' := by
  have H : (if a0 ≥ 12 then (some (decide (a0 ≤ 15))) else (some false)) = some r := h
  clear h
  by_cases c2 : a0 ≥ 12
  · rw [if_pos c2] at H
    have c2b0 : decide (12 ≤ a0) = true := decide_eq_true c2
    clear c2
    obtain rfl := Option.some.inj H
    go_enter Try.func18, Try.ntmps18
    go_wp2
    go_ret
    exact ⟨by first | rfl | (simp; done) | (simp [*]; done), by repeat (first | exact Drawn0.refl _ | apply Drawn0.step)⟩
  · rw [if_neg c2] at H
    have c2b0 : decide (12 ≤ a0) = false := decide_eq_false c2
    clear c2
    obtain rfl := Option.some.inj H
    go_enter Try.func18, Try.ntmps18
    go_wp2
    go_ret
    exact ⟨by first | rfl | (simp; done) | (simp [*]; done), by repeat (first | exact Drawn0.refl _ | apply Drawn0.step)⟩

/-! ### caponierlaw03_awake: function 11 -/
def caponierlaw03_awake.f  : Option (Bool) := (alu_Two.f 12 18446744073709551609 2).bind fun bt101 => ((alu_Two.f 14 18446744073709551609 2).bind fun bt103 => ((alu_Two.f 13 7 0).bind fun bt105 => ((alu_One.f 24 9223372036854775808 63).bind fun bt107 => ((alu_Taken.f 34 9223372036854775808 0).bind fun bt109 => ((alu_Two.f 16 1 1).bind fun bt111 => (if bt101.2 = true then (if bt101.1 = 18446744073709551613 then (if bt103.2 = true then (if bt103.1 = 18446744073709551615 then (if bt105.2 = true then (if bt105.1 = 18446744073709551615 then (if bt107.2 = true then (if bt107.1 = 18446744073709551615 then (if bt109.1 = true then (if bt109.2 = true then (if bt111.2 = true then (some false) else ((alu_Varies.f 14).bind fun t113 => (if t113 = true then ((alu_Varies.f 10).bind fun t114 => (some (!t114))) else (some false)))) else (some false)) else (some false)) else (some false)) else (some false)) else (some false)) else (some false)) else (some false)) else (some false)) else (some false)) else (some false)))))))
set_option maxHeartbeats 8000000 in
set_option maxRecDepth 100000 in
theorem caponierlaw03_awake.calls  (r : Bool) (w : World) (h : caponierlaw03_awake.f  = some r) :
    Calls Try.prog 11 #[] w fun e w' => e = .returned (.bool r) ∧ Below w.heap.size w w' := by
  have HB := Aside0.mk (Below.refl w.heap.size w)
  have H : ((alu_Two.f 12 18446744073709551609 2).bind fun bt101 => ((alu_Two.f 14 18446744073709551609 2).bind fun bt103 => ((alu_Two.f 13 7 0).bind fun bt105 => ((alu_One.f 24 9223372036854775808 63).bind fun bt107 => ((alu_Taken.f 34 9223372036854775808 0).bind fun bt109 => ((alu_Two.f 16 1 1).bind fun bt111 => (if bt101.2 = true then (if bt101.1 = 18446744073709551613 then (if bt103.2 = true then (if bt103.1 = 18446744073709551615 then (if bt105.2 = true then (if bt105.1 = 18446744073709551615 then (if bt107.2 = true then (if bt107.1 = 18446744073709551615 then (if bt109.1 = true then (if bt109.2 = true then (if bt111.2 = true then (some false) else ((alu_Varies.f 14).bind fun t113 => (if t113 = true then ((alu_Varies.f 10).bind fun t114 => (some (!t114))) else (some false)))) else (some false)) else (some false)) else (some false)) else (some false)) else (some false)) else (some false)) else (some false)) else (some false)) else (some false)) else (some false)))))))) = some r := h
  clear h
  replace H := Option.bind_eq_some_iff.mp H
  obtain ⟨⟨t101, t102⟩, A10, H⟩ := H
  replace H : ((alu_Two.f 14 18446744073709551609 2).bind fun bt103 => ((alu_Two.f 13 7 0).bind fun bt105 => ((alu_One.f 24 9223372036854775808 63).bind fun bt107 => ((alu_Taken.f 34 9223372036854775808 0).bind fun bt109 => ((alu_Two.f 16 1 1).bind fun bt111 => (if t102 = true then (if t101 = 18446744073709551613 then (if bt103.2 = true then (if bt103.1 = 18446744073709551615 then (if bt105.2 = true then (if bt105.1 = 18446744073709551615 then (if bt107.2 = true then (if bt107.1 = 18446744073709551615 then (if bt109.1 = true then (if bt109.2 = true then (if bt111.2 = true then (some false) else ((alu_Varies.f 14).bind fun t113 => (if t113 = true then ((alu_Varies.f 10).bind fun t114 => (some (!t114))) else (some false)))) else (some false)) else (some false)) else (some false)) else (some false)) else (some false)) else (some false)) else (some false)) else (some false)) else (some false)) else (some false))))))) = some r := H
  have A1 := Aside0.mk A10
  clear A10
  replace H := Option.bind_eq_some_iff.mp H
  obtain ⟨⟨t103, t104⟩, A20, H⟩ := H
  replace H : ((alu_Two.f 13 7 0).bind fun bt105 => ((alu_One.f 24 9223372036854775808 63).bind fun bt107 => ((alu_Taken.f 34 9223372036854775808 0).bind fun bt109 => ((alu_Two.f 16 1 1).bind fun bt111 => (if t102 = true then (if t101 = 18446744073709551613 then (if t104 = true then (if t103 = 18446744073709551615 then (if bt105.2 = true then (if bt105.1 = 18446744073709551615 then (if bt107.2 = true then (if bt107.1 = 18446744073709551615 then (if bt109.1 = true then (if bt109.2 = true then (if bt111.2 = true then (some false) else ((alu_Varies.f 14).bind fun t113 => (if t113 = true then ((alu_Varies.f 10).bind fun t114 => (some (!t114))) else (some false)))) else (some false)) else (some false)) else (some false)) else (some false)) else (some false)) else (some false)) else (some false)) else (some false)) else (some false)) else (some false)))))) = some r := H
  have A2 := Aside0.mk A20
  clear A20
  replace H := Option.bind_eq_some_iff.mp H
  obtain ⟨⟨t105, t106⟩, A30, H⟩ := H
  replace H : ((alu_One.f 24 9223372036854775808 63).bind fun bt107 => ((alu_Taken.f 34 9223372036854775808 0).bind fun bt109 => ((alu_Two.f 16 1 1).bind fun bt111 => (if t102 = true then (if t101 = 18446744073709551613 then (if t104 = true then (if t103 = 18446744073709551615 then (if t106 = true then (if t105 = 18446744073709551615 then (if bt107.2 = true then (if bt107.1 = 18446744073709551615 then (if bt109.1 = true then (if bt109.2 = true then (if bt111.2 = true then (some false) else ((alu_Varies.f 14).bind fun t113 => (if t113 = true then ((alu_Varies.f 10).bind fun t114 => (some (!t114))) else (some false)))) else (some false)) else (some false)) else (some false)) else (some false)) else (some false)) else (some false)) else (some false)) else (some false)) else (some false)) else (some false))))) = some r := H
  have A3 := Aside0.mk A30
  clear A30
  replace H := Option.bind_eq_some_iff.mp H
  obtain ⟨⟨t107, t108⟩, A40, H⟩ := H
  replace H : ((alu_Taken.f 34 9223372036854775808 0).bind fun bt109 => ((alu_Two.f 16 1 1).bind fun bt111 => (if t102 = true then (if t101 = 18446744073709551613 then (if t104 = true then (if t103 = 18446744073709551615 then (if t106 = true then (if t105 = 18446744073709551615 then (if t108 = true then (if t107 = 18446744073709551615 then (if bt109.1 = true then (if bt109.2 = true then (if bt111.2 = true then (some false) else ((alu_Varies.f 14).bind fun t113 => (if t113 = true then ((alu_Varies.f 10).bind fun t114 => (some (!t114))) else (some false)))) else (some false)) else (some false)) else (some false)) else (some false)) else (some false)) else (some false)) else (some false)) else (some false)) else (some false)) else (some false)))) = some r := H
  have A4 := Aside0.mk A40
  clear A40
  replace H := Option.bind_eq_some_iff.mp H
  obtain ⟨⟨t109, t110⟩, A50, H⟩ := H
  replace H : ((alu_Two.f 16 1 1).bind fun bt111 => (if t102 = true then (if t101 = 18446744073709551613 then (if t104 = true then (if t103 = 18446744073709551615 then (if t106 = true then (if t105 = 18446744073709551615 then (if t108 = true then (if t107 = 18446744073709551615 then (if t109 = true then (if t110 = true then (if bt111.2 = true then (some false) else ((alu_Varies.f 14).bind fun t113 => (if t113 = true then ((alu_Varies.f 10).bind fun t114 => (some (!t114))) else (some false)))) else (some false)) else (some false)) else (some false)) else (some false)) else (some false)) else (some false)) else (some false)) else (some false)) else (some false)) else (some false))) = some r := H
  have A5 := Aside0.mk A50
  clear A50
  replace H := Option.bind_eq_some_iff.mp H
  obtain ⟨⟨t111, t112⟩, A60, H⟩ := H
  replace H : (if t102 = true then (if t101 = 18446744073709551613 then (if t104 = true then (if t103 = 18446744073709551615 then (if t106 = true then (if t105 = 18446744073709551615 then (if t108 = true then (if t107 = 18446744073709551615 then (if t109 = true then (if t110 = true then (if t112 = true then (some false) else ((alu_Varies.f 14).bind fun t113 => (if t113 = true then ((alu_Varies.f 10).bind fun t114 => (some (!t114))) else (some false)))) else (some false)) else (some false)) else (some false)) else (some false)) else (some false)) else (some false)) else (some false)) else (some false)) else (some false)) else (some false)) = some r := H
  have A6 := Aside0.mk A60
  clear A60
  by_cases c7 : t102 = true
  · subst c7
    have H1 : (if t101 = 18446744073709551613 then (if t104 = true then (if t103 = 18446744073709551615 then (if t106 = true then (if t105 = 18446744073709551615 then (if t108 = true then (if t107 = 18446744073709551615 then (if t109 = true then (if t110 = true then (if t112 = true then (some false) else ((alu_Varies.f 14).bind fun t113 => (if t113 = true then ((alu_Varies.f 10).bind fun t114 => (some (!t114))) else (some false)))) else (some false)) else (some false)) else (some false)) else (some false)) else (some false)) else (some false)) else (some false)) else (some false)) else (some false)) = some r := by rw [if_pos rfl] at H; exact H
    clear H
    have H := H1
    clear H1
    by_cases c8 : t101 = 18446744073709551613
    · rw [if_pos c8] at H
      have c8b0 : (t101 == 18446744073709551613) = true := beq_iff_eq.mpr c8
      have c8b1 : (t101 != 18446744073709551613) = false := bne_eq_false_iff_eq.mpr c8
      clear c8
      by_cases c9 : t104 = true
      · subst c9
        have H1 : (if t103 = 18446744073709551615 then (if t106 = true then (if t105 = 18446744073709551615 then (if t108 = true then (if t107 = 18446744073709551615 then (if t109 = true then (if t110 = true then (if t112 = true then (some false) else ((alu_Varies.f 14).bind fun t113 => (if t113 = true then ((alu_Varies.f 10).bind fun t114 => (some (!t114))) else (some false)))) else (some false)) else (some false)) else (some false)) else (some false)) else (some false)) else (some false)) else (some false)) = some r := by rw [if_pos rfl] at H; exact H
        clear H
        have H := H1
        clear H1
        by_cases c10 : t103 = 18446744073709551615
        · rw [if_pos c10] at H
          have c10b0 : (t103 == 18446744073709551615) = true := beq_iff_eq.mpr c10
          have c10b1 : (t103 != 18446744073709551615) = false := bne_eq_false_iff_eq.mpr c10
          clear c10
          by_cases c11 : t106 = true
          · subst c11
            have H1 : (if t105 = 18446744073709551615 then (if t108 = true then (if t107 = 18446744073709551615 then (if t109 = true then (if t110 = true then (if t112 = true then (some false) else ((alu_Varies.f 14).bind fun t113 => (if t113 = true then ((alu_Varies.f 10).bind fun t114 => (some (!t114))) else (some false)))) else (some false)) else (some false)) else (some false)) else (some false)) else (some false)) = some r := by rw [if_pos rfl] at H; exact H
            clear H
            have H := H1
            clear H1
            by_cases c12 : t105 = 18446744073709551615
            · rw [if_pos c12] at H
              have c12b0 : (t105 == 18446744073709551615) = true := beq_iff_eq.mpr c12
              have c12b1 : (t105 != 18446744073709551615) = false := bne_eq_false_iff_eq.mpr c12
              clear c12
              by_cases c13 : t108 = true
              · subst c13
                have H1 : (if t107 = 18446744073709551615 then (if t109 = true then (if t110 = true then (if t112 = true then (some false) else ((alu_Varies.f 14).bind fun t113 => (if t113 = true then ((alu_Varies.f 10).bind fun t114 => (some (!t114))) else (some false)))) else (some false)) else (some false)) else (some false)) = some r := by rw [if_pos rfl] at H; exact H
                clear H
                have H := H1
                clear H1
                by_cases c14 : t107 = 18446744073709551615
                · rw [if_pos c14] at H
                  have c14b0 : (t107 == 18446744073709551615) = true := beq_iff_eq.mpr c14
                  have c14b1 : (t107 != 18446744073709551615) = false := bne_eq_false_iff_eq.mpr c14
                  clear c14
                  by_cases c15 : t109 = true
                  · subst c15
                    have H1 : (if t110 = true then (if t112 = true then (some false) else ((alu_Varies.f 14).bind fun t113 => (if t113 = true then ((alu_Varies.f 10).bind fun t114 => (some (!t114))) else (some false)))) else (some false)) = some r := by rw [if_pos rfl] at H; exact H
                    clear H
                    have H := H1
                    clear H1
                    by_cases c16 : t110 = true
                    · subst c16
                      have H1 : (if t112 = true then (some false) else ((alu_Varies.f 14).bind fun t113 => (if t113 = true then ((alu_Varies.f 10).bind fun t114 => (some (!t114))) else (some false)))) = some r := by rw [if_pos rfl] at H; exact H
                      clear H
                      have H := H1
                      clear H1
                      by_cases c17 : t112 = true
                      · subst c17
                        have H1 : (some false) = some r := by rw [if_pos rfl] at H; exact H
                        clear H
                        have H := H1
                        clear H1
                        obtain rfl := Option.some.inj H
                        go_enter Try.func11, Try.ntmps11
                        go_wp2_with (first | ((with_reducible refine gate_callee (f := 12) rfl ?_); refine goesL_ (some 14) rfl rfl Try.func12 (by kernel_rfl) rfl #[.int .i64 12, .int .u64 18446744073709551609, .int .u64 2] rfl (by (try simp only [List.map_toArray, List.map_cons, List.map_nil]); first | done | rfl | (simp only [List.length_drop, List.length_take]; rfl)) ?_; (with_reducible refine (alu_Two.calls 12 18446744073709551609 2 t101 true _ A1.out).mono ?_); rintro e w18 ⟨rfl, hb⟩; refine ⟨_, rfl, ?_⟩; have n0_ := Aside0.mk (below_step (by repeat (first | (with_reducible first | exact HB.out | apply below_alloc | apply pw_below_drewN | apply below_drew1) | exact HB.out)) hb); clear HB; have HB := n0_; clear n0_; (try clear hb); (try clear hb2); (try clear hk); (try clear hi)) | ((with_reducible refine gate_callee (f := 12) rfl ?_); refine goesL_ (some 18) rfl rfl Try.func12 (by kernel_rfl) rfl #[.int .i64 14, .int .u64 18446744073709551609, .int .u64 2] rfl (by (try simp only [List.map_toArray, List.map_cons, List.map_nil]); first | done | rfl | (simp only [List.length_drop, List.length_take]; rfl)) ?_; (with_reducible refine (alu_Two.calls 14 18446744073709551609 2 t103 true _ A2.out).mono ?_); rintro e w19 ⟨rfl, hb⟩; refine ⟨_, rfl, ?_⟩; have n0_ := Aside0.mk (below_step (by repeat (first | (with_reducible first | exact HB.out | apply below_alloc | apply pw_below_drewN | apply below_drew1) | exact HB.out)) hb); clear HB; have HB := n0_; clear n0_; (try clear hb); (try clear hb2); (try clear hk); (try clear hi)) | ((with_reducible refine gate_callee (f := 12) rfl ?_); refine goesL_ (some 22) rfl rfl Try.func12 (by kernel_rfl) rfl #[.int .i64 13, .int .u64 7, .int .u64 0] rfl (by (try simp only [List.map_toArray, List.map_cons, List.map_nil]); first | done | rfl | (simp only [List.length_drop, List.length_take]; rfl)) ?_; (with_reducible refine (alu_Two.calls 13 7 0 t105 true _ A3.out).mono ?_); rintro e w20 ⟨rfl, hb⟩; refine ⟨_, rfl, ?_⟩; have n0_ := Aside0.mk (below_step (by repeat (first | (with_reducible first | exact HB.out | apply below_alloc | apply pw_below_drewN | apply below_drew1) | exact HB.out)) hb); clear HB; have HB := n0_; clear n0_; (try clear hb); (try clear hb2); (try clear hk); (try clear hi)) | ((with_reducible refine gate_callee (f := 14) rfl ?_); refine goesL_ (some 26) rfl rfl Try.func14 (by kernel_rfl) rfl #[.int .i64 24, .int .u64 9223372036854775808, .int .i64 63] rfl (by (try simp only [List.map_toArray, List.map_cons, List.map_nil]); first | done | rfl | (simp only [List.length_drop, List.length_take]; rfl)) ?_; (with_reducible refine (alu_One.calls 24 9223372036854775808 63 t107 true _ A4.out).mono ?_); rintro e w21 ⟨rfl, hb⟩; refine ⟨_, rfl, ?_⟩; have n0_ := Aside0.mk (below_step (by repeat (first | (with_reducible first | exact HB.out | apply below_alloc | apply pw_below_drewN | apply below_drew1) | exact HB.out)) hb); clear HB; have HB := n0_; clear n0_; (try clear hb); (try clear hb2); (try clear hk); (try clear hi)) | ((with_reducible refine gate_callee (f := 16) rfl ?_); refine goesL_ (some 30) rfl rfl Try.func16 (by kernel_rfl) rfl #[.int .i64 34, .int .u64 9223372036854775808, .int .u64 0] rfl (by (try simp only [List.map_toArray, List.map_cons, List.map_nil]); first | done | rfl | (simp only [List.length_drop, List.length_take]; rfl)) ?_; (with_reducible refine (alu_Taken.calls 34 9223372036854775808 0 true true _ A5.out).mono ?_); rintro e w' ⟨rfl, ⟨nd, rfl⟩⟩; refine ⟨_, rfl, ?_⟩) | ((with_reducible refine gate_callee (f := 12) rfl ?_); refine goesL_ (some 34) rfl rfl Try.func12 (by kernel_rfl) rfl #[.int .i64 16, .int .u64 1, .int .u64 1] rfl (by (try simp only [List.map_toArray, List.map_cons, List.map_nil]); first | done | rfl | (simp only [List.length_drop, List.length_take]; rfl)) ?_; (with_reducible refine (alu_Two.calls 16 1 1 t111 true _ A6.out).mono ?_); rintro e w22 ⟨rfl, hb⟩; refine ⟨_, rfl, ?_⟩; have n0_ := Aside0.mk (below_step (by repeat (first | (with_reducible first | exact HB.out | apply below_alloc | apply pw_below_drewN | apply below_drew1) | exact HB.out)) hb); clear HB; have HB := n0_; clear n0_; (try clear hb); (try clear hb2); (try clear hk); (try clear hi)))
                        go_ret
                        exact ⟨by first | rfl | (simp [errW_none, errW_some] <;> rfl) | (simp [*, errW_none, errW_some] <;> rfl), by repeat (first | (with_reducible first | exact HB.out | apply below_alloc | apply pw_below_drewN | apply below_drew1) | exact HB.out)⟩
                      · replace c17 := Bool.eq_false_iff.mpr c17
                        subst c17
                        have H1 : ((alu_Varies.f 14).bind fun t113 => (if t113 = true then ((alu_Varies.f 10).bind fun t114 => (some (!t114))) else (some false))) = some r := by rw [if_neg (show ¬ (false = true) by decide)] at H; exact H
                        clear H
                        have H := H1
                        clear H1
                        replace H := Option.bind_eq_some_iff.mp H
                        obtain ⟨t113, A230, H⟩ := H
                        replace H : (if t113 = true then ((alu_Varies.f 10).bind fun t114 => (some (!t114))) else (some false)) = some r := H
                        have A23 := Aside0.mk A230
                        clear A230
                        by_cases c24 : t113 = true
                        · subst c24
                          have H1 : ((alu_Varies.f 10).bind fun t114 => (some (!t114))) = some r := by rw [if_pos rfl] at H; exact H
                          clear H
                          have H := H1
                          clear H1
                          replace H := Option.bind_eq_some_iff.mp H
                          obtain ⟨t114, A250, H⟩ := H
                          replace H : (some (!t114)) = some r := H
                          have A25 := Aside0.mk A250
                          clear A250
                          obtain rfl := Option.some.inj H
                          go_enter Try.func11, Try.ntmps11
                          go_wp2_with (first | ((with_reducible refine gate_callee (f := 12) rfl ?_); refine goesL_ (some 14) rfl rfl Try.func12 (by kernel_rfl) rfl #[.int .i64 12, .int .u64 18446744073709551609, .int .u64 2] rfl (by (try simp only [List.map_toArray, List.map_cons, List.map_nil]); first | done | rfl | (simp only [List.length_drop, List.length_take]; rfl)) ?_; (with_reducible refine (alu_Two.calls 12 18446744073709551609 2 t101 true _ A1.out).mono ?_); rintro e w26 ⟨rfl, hb⟩; refine ⟨_, rfl, ?_⟩; have n0_ := Aside0.mk (below_step (by repeat (first | (with_reducible first | exact HB.out | apply below_alloc | apply pw_below_drewN | apply below_drew1) | exact HB.out)) hb); clear HB; have HB := n0_; clear n0_; (try clear hb); (try clear hb2); (try clear hk); (try clear hi)) | ((with_reducible refine gate_callee (f := 12) rfl ?_); refine goesL_ (some 18) rfl rfl Try.func12 (by kernel_rfl) rfl #[.int .i64 14, .int .u64 18446744073709551609, .int .u64 2] rfl (by (try simp only [List.map_toArray, List.map_cons, List.map_nil]); first | done | rfl | (simp only [List.length_drop, List.length_take]; rfl)) ?_; (with_reducible refine (alu_Two.calls 14 18446744073709551609 2 t103 true _ A2.out).mono ?_); rintro e w27 ⟨rfl, hb⟩; refine ⟨_, rfl, ?_⟩; have n0_ := Aside0.mk (below_step (by repeat (first | (with_reducible first | exact HB.out | apply below_alloc | apply pw_below_drewN | apply below_drew1) | exact HB.out)) hb); clear HB; have HB := n0_; clear n0_; (try clear hb); (try clear hb2); (try clear hk); (try clear hi)) | ((with_reducible refine gate_callee (f := 12) rfl ?_); refine goesL_ (some 22) rfl rfl Try.func12 (by kernel_rfl) rfl #[.int .i64 13, .int .u64 7, .int .u64 0] rfl (by (try simp only [List.map_toArray, List.map_cons, List.map_nil]); first | done | rfl | (simp only [List.length_drop, List.length_take]; rfl)) ?_; (with_reducible refine (alu_Two.calls 13 7 0 t105 true _ A3.out).mono ?_); rintro e w28 ⟨rfl, hb⟩; refine ⟨_, rfl, ?_⟩; have n0_ := Aside0.mk (below_step (by repeat (first | (with_reducible first | exact HB.out | apply below_alloc | apply pw_below_drewN | apply below_drew1) | exact HB.out)) hb); clear HB; have HB := n0_; clear n0_; (try clear hb); (try clear hb2); (try clear hk); (try clear hi)) | ((with_reducible refine gate_callee (f := 14) rfl ?_); refine goesL_ (some 26) rfl rfl Try.func14 (by kernel_rfl) rfl #[.int .i64 24, .int .u64 9223372036854775808, .int .i64 63] rfl (by (try simp only [List.map_toArray, List.map_cons, List.map_nil]); first | done | rfl | (simp only [List.length_drop, List.length_take]; rfl)) ?_; (with_reducible refine (alu_One.calls 24 9223372036854775808 63 t107 true _ A4.out).mono ?_); rintro e w29 ⟨rfl, hb⟩; refine ⟨_, rfl, ?_⟩; have n0_ := Aside0.mk (below_step (by repeat (first | (with_reducible first | exact HB.out | apply below_alloc | apply pw_below_drewN | apply below_drew1) | exact HB.out)) hb); clear HB; have HB := n0_; clear n0_; (try clear hb); (try clear hb2); (try clear hk); (try clear hi)) | ((with_reducible refine gate_callee (f := 16) rfl ?_); refine goesL_ (some 30) rfl rfl Try.func16 (by kernel_rfl) rfl #[.int .i64 34, .int .u64 9223372036854775808, .int .u64 0] rfl (by (try simp only [List.map_toArray, List.map_cons, List.map_nil]); first | done | rfl | (simp only [List.length_drop, List.length_take]; rfl)) ?_; (with_reducible refine (alu_Taken.calls 34 9223372036854775808 0 true true _ A5.out).mono ?_); rintro e w' ⟨rfl, ⟨nd, rfl⟩⟩; refine ⟨_, rfl, ?_⟩) | ((with_reducible refine gate_callee (f := 12) rfl ?_); refine goesL_ (some 34) rfl rfl Try.func12 (by kernel_rfl) rfl #[.int .i64 16, .int .u64 1, .int .u64 1] rfl (by (try simp only [List.map_toArray, List.map_cons, List.map_nil]); first | done | rfl | (simp only [List.length_drop, List.length_take]; rfl)) ?_; (with_reducible refine (alu_Two.calls 16 1 1 t111 false _ A6.out).mono ?_); rintro e w30 ⟨rfl, hb⟩; refine ⟨_, rfl, ?_⟩; have n0_ := Aside0.mk (below_step (by repeat (first | (with_reducible first | exact HB.out | apply below_alloc | apply pw_below_drewN | apply below_drew1) | exact HB.out)) hb); clear HB; have HB := n0_; clear n0_; (try clear hb); (try clear hb2); (try clear hk); (try clear hi)) | (go_at_call 18; (with_reducible refine (alu_Varies.calls 14 true _ A23.out).mono ?_); rintro e w' ⟨rfl, ⟨nd, rfl⟩⟩) | (go_at_call 18; (with_reducible refine (alu_Varies.calls 10 t114 _ A25.out).mono ?_); rintro e w' ⟨rfl, ⟨nd, rfl⟩⟩))
                          go_ret
                          exact ⟨by first | rfl | (simp [errW_none, errW_some] <;> rfl) | (simp [*, errW_none, errW_some] <;> rfl), by repeat (first | (with_reducible first | exact HB.out | apply below_alloc | apply pw_below_drewN | apply below_drew1) | exact HB.out)⟩
                        · replace c24 := Bool.eq_false_iff.mpr c24
                          subst c24
                          have H1 : (some false) = some r := by rw [if_neg (show ¬ (false = true) by decide)] at H; exact H
                          clear H
                          have H := H1
                          clear H1
                          obtain rfl := Option.some.inj H
                          go_enter Try.func11, Try.ntmps11
                          go_wp2_with (first | ((with_reducible refine gate_callee (f := 12) rfl ?_); refine goesL_ (some 14) rfl rfl Try.func12 (by kernel_rfl) rfl #[.int .i64 12, .int .u64 18446744073709551609, .int .u64 2] rfl (by (try simp only [List.map_toArray, List.map_cons, List.map_nil]); first | done | rfl | (simp only [List.length_drop, List.length_take]; rfl)) ?_; (with_reducible refine (alu_Two.calls 12 18446744073709551609 2 t101 true _ A1.out).mono ?_); rintro e w31 ⟨rfl, hb⟩; refine ⟨_, rfl, ?_⟩; have n0_ := Aside0.mk (below_step (by repeat (first | (with_reducible first | exact HB.out | apply below_alloc | apply pw_below_drewN | apply below_drew1) | exact HB.out)) hb); clear HB; have HB := n0_; clear n0_; (try clear hb); (try clear hb2); (try clear hk); (try clear hi)) | ((with_reducible refine gate_callee (f := 12) rfl ?_); refine goesL_ (some 18) rfl rfl Try.func12 (by kernel_rfl) rfl #[.int .i64 14, .int .u64 18446744073709551609, .int .u64 2] rfl (by (try simp only [List.map_toArray, List.map_cons, List.map_nil]); first | done | rfl | (simp only [List.length_drop, List.length_take]; rfl)) ?_; (with_reducible refine (alu_Two.calls 14 18446744073709551609 2 t103 true _ A2.out).mono ?_); rintro e w32 ⟨rfl, hb⟩; refine ⟨_, rfl, ?_⟩; have n0_ := Aside0.mk (below_step (by repeat (first | (with_reducible first | exact HB.out | apply below_alloc | apply pw_below_drewN | apply below_drew1) | exact HB.out)) hb); clear HB; have HB := n0_; clear n0_; (try clear hb); (try clear hb2); (try clear hk); (try clear hi)) | ((with_reducible refine gate_callee (f := 12) rfl ?_); refine goesL_ (some 22) rfl rfl Try.func12 (by kernel_rfl) rfl #[.int .i64 13, .int .u64 7, .int .u64 0] rfl (by (try simp only [List.map_toArray, List.map_cons, List.map_nil]); first | done | rfl | (simp only [List.length_drop, List.length_take]; rfl)) ?_; (with_reducible refine (alu_Two.calls 13 7 0 t105 true _ A3.out).mono ?_); rintro e w33 ⟨rfl, hb⟩; refine ⟨_, rfl, ?_⟩; have n0_ := Aside0.mk (below_step (by repeat (first | (with_reducible first | exact HB.out | apply below_alloc | apply pw_below_drewN | apply below_drew1) | exact HB.out)) hb); clear HB; have HB := n0_; clear n0_; (try clear hb); (try clear hb2); (try clear hk); (try clear hi)) | ((with_reducible refine gate_callee (f := 14) rfl ?_); refine goesL_ (some 26) rfl rfl Try.func14 (by kernel_rfl) rfl #[.int .i64 24, .int .u64 9223372036854775808, .int .i64 63] rfl (by (try simp only [List.map_toArray, List.map_cons, List.map_nil]); first | done | rfl | (simp only [List.length_drop, List.length_take]; rfl)) ?_; (with_reducible refine (alu_One.calls 24 9223372036854775808 63 t107 true _ A4.out).mono ?_); rintro e w34 ⟨rfl, hb⟩; refine ⟨_, rfl, ?_⟩; have n0_ := Aside0.mk (below_step (by repeat (first | (with_reducible first | exact HB.out | apply below_alloc | apply pw_below_drewN | apply below_drew1) | exact HB.out)) hb); clear HB; have HB := n0_; clear n0_; (try clear hb); (try clear hb2); (try clear hk); (try clear hi)) | ((with_reducible refine gate_callee (f := 16) rfl ?_); refine goesL_ (some 30) rfl rfl Try.func16 (by kernel_rfl) rfl #[.int .i64 34, .int .u64 9223372036854775808, .int .u64 0] rfl (by (try simp only [List.map_toArray, List.map_cons, List.map_nil]); first | done | rfl | (simp only [List.length_drop, List.length_take]; rfl)) ?_; (with_reducible refine (alu_Taken.calls 34 9223372036854775808 0 true true _ A5.out).mono ?_); rintro e w' ⟨rfl, ⟨nd, rfl⟩⟩; refine ⟨_, rfl, ?_⟩) | ((with_reducible refine gate_callee (f := 12) rfl ?_); refine goesL_ (some 34) rfl rfl Try.func12 (by kernel_rfl) rfl #[.int .i64 16, .int .u64 1, .int .u64 1] rfl (by (try simp only [List.map_toArray, List.map_cons, List.map_nil]); first | done | rfl | (simp only [List.length_drop, List.length_take]; rfl)) ?_; (with_reducible refine (alu_Two.calls 16 1 1 t111 false _ A6.out).mono ?_); rintro e w35 ⟨rfl, hb⟩; refine ⟨_, rfl, ?_⟩; have n0_ := Aside0.mk (below_step (by repeat (first | (with_reducible first | exact HB.out | apply below_alloc | apply pw_below_drewN | apply below_drew1) | exact HB.out)) hb); clear HB; have HB := n0_; clear n0_; (try clear hb); (try clear hb2); (try clear hk); (try clear hi)) | (go_at_call 18; (with_reducible refine (alu_Varies.calls 14 false _ A23.out).mono ?_); rintro e w' ⟨rfl, ⟨nd, rfl⟩⟩))
                          go_ret
                          exact ⟨by first | rfl | (simp [errW_none, errW_some] <;> rfl) | (simp [*, errW_none, errW_some] <;> rfl), by repeat (first | (with_reducible first | exact HB.out | apply below_alloc | apply pw_below_drewN | apply below_drew1) | exact HB.out)⟩
                    · replace c16 := Bool.eq_false_iff.mpr c16
                      subst c16
                      have H1 : (some false) = some r := by rw [if_neg (show ¬ (false = true) by decide)] at H; exact H
                      clear H
                      have H := H1
                      clear H1
                      obtain rfl := Option.some.inj H
                      go_enter Try.func11, Try.ntmps11
                      go_wp2_with (first | ((with_reducible refine gate_callee (f := 12) rfl ?_); refine goesL_ (some 14) rfl rfl Try.func12 (by kernel_rfl) rfl #[.int .i64 12, .int .u64 18446744073709551609, .int .u64 2] rfl (by (try simp only [List.map_toArray, List.map_cons, List.map_nil]); first | done | rfl | (simp only [List.length_drop, List.length_take]; rfl)) ?_; (with_reducible refine (alu_Two.calls 12 18446744073709551609 2 t101 true _ A1.out).mono ?_); rintro e w36 ⟨rfl, hb⟩; refine ⟨_, rfl, ?_⟩; have n0_ := Aside0.mk (below_step (by repeat (first | (with_reducible first | exact HB.out | apply below_alloc | apply pw_below_drewN | apply below_drew1) | exact HB.out)) hb); clear HB; have HB := n0_; clear n0_; (try clear hb); (try clear hb2); (try clear hk); (try clear hi)) | ((with_reducible refine gate_callee (f := 12) rfl ?_); refine goesL_ (some 18) rfl rfl Try.func12 (by kernel_rfl) rfl #[.int .i64 14, .int .u64 18446744073709551609, .int .u64 2] rfl (by (try simp only [List.map_toArray, List.map_cons, List.map_nil]); first | done | rfl | (simp only [List.length_drop, List.length_take]; rfl)) ?_; (with_reducible refine (alu_Two.calls 14 18446744073709551609 2 t103 true _ A2.out).mono ?_); rintro e w37 ⟨rfl, hb⟩; refine ⟨_, rfl, ?_⟩; have n0_ := Aside0.mk (below_step (by repeat (first | (with_reducible first | exact HB.out | apply below_alloc | apply pw_below_drewN | apply below_drew1) | exact HB.out)) hb); clear HB; have HB := n0_; clear n0_; (try clear hb); (try clear hb2); (try clear hk); (try clear hi)) | ((with_reducible refine gate_callee (f := 12) rfl ?_); refine goesL_ (some 22) rfl rfl Try.func12 (by kernel_rfl) rfl #[.int .i64 13, .int .u64 7, .int .u64 0] rfl (by (try simp only [List.map_toArray, List.map_cons, List.map_nil]); first | done | rfl | (simp only [List.length_drop, List.length_take]; rfl)) ?_; (with_reducible refine (alu_Two.calls 13 7 0 t105 true _ A3.out).mono ?_); rintro e w38 ⟨rfl, hb⟩; refine ⟨_, rfl, ?_⟩; have n0_ := Aside0.mk (below_step (by repeat (first | (with_reducible first | exact HB.out | apply below_alloc | apply pw_below_drewN | apply below_drew1) | exact HB.out)) hb); clear HB; have HB := n0_; clear n0_; (try clear hb); (try clear hb2); (try clear hk); (try clear hi)) | ((with_reducible refine gate_callee (f := 14) rfl ?_); refine goesL_ (some 26) rfl rfl Try.func14 (by kernel_rfl) rfl #[.int .i64 24, .int .u64 9223372036854775808, .int .i64 63] rfl (by (try simp only [List.map_toArray, List.map_cons, List.map_nil]); first | done | rfl | (simp only [List.length_drop, List.length_take]; rfl)) ?_; (with_reducible refine (alu_One.calls 24 9223372036854775808 63 t107 true _ A4.out).mono ?_); rintro e w39 ⟨rfl, hb⟩; refine ⟨_, rfl, ?_⟩; have n0_ := Aside0.mk (below_step (by repeat (first | (with_reducible first | exact HB.out | apply below_alloc | apply pw_below_drewN | apply below_drew1) | exact HB.out)) hb); clear HB; have HB := n0_; clear n0_; (try clear hb); (try clear hb2); (try clear hk); (try clear hi)) | ((with_reducible refine gate_callee (f := 16) rfl ?_); refine goesL_ (some 30) rfl rfl Try.func16 (by kernel_rfl) rfl #[.int .i64 34, .int .u64 9223372036854775808, .int .u64 0] rfl (by (try simp only [List.map_toArray, List.map_cons, List.map_nil]); first | done | rfl | (simp only [List.length_drop, List.length_take]; rfl)) ?_; (with_reducible refine (alu_Taken.calls 34 9223372036854775808 0 true false _ A5.out).mono ?_); rintro e w' ⟨rfl, ⟨nd, rfl⟩⟩; refine ⟨_, rfl, ?_⟩) | ((with_reducible refine gate_callee (f := 12) rfl ?_); refine goesL_ (some 34) rfl rfl Try.func12 (by kernel_rfl) rfl #[.int .i64 16, .int .u64 1, .int .u64 1] rfl (by (try simp only [List.map_toArray, List.map_cons, List.map_nil]); first | done | rfl | (simp only [List.length_drop, List.length_take]; rfl)) ?_; (with_reducible refine (alu_Two.calls 16 1 1 t111 t112 _ A6.out).mono ?_); rintro e w40 ⟨rfl, hb⟩; refine ⟨_, rfl, ?_⟩; have n0_ := Aside0.mk (below_step (by repeat (first | (with_reducible first | exact HB.out | apply below_alloc | apply pw_below_drewN | apply below_drew1) | exact HB.out)) hb); clear HB; have HB := n0_; clear n0_; (try clear hb); (try clear hb2); (try clear hk); (try clear hi)))
                      go_ret
                      exact ⟨by first | rfl | (simp [errW_none, errW_some] <;> rfl) | (simp [*, errW_none, errW_some] <;> rfl), by repeat (first | (with_reducible first | exact HB.out | apply below_alloc | apply pw_below_drewN | apply below_drew1) | exact HB.out)⟩
                  · replace c15 := Bool.eq_false_iff.mpr c15
                    subst c15
                    have H1 : (some false) = some r := by rw [if_neg (show ¬ (false = true) by decide)] at H; exact H
                    clear H
                    have H := H1
                    clear H1
                    obtain rfl := Option.some.inj H
                    go_enter Try.func11, Try.ntmps11
                    go_wp2_with (first | ((with_reducible refine gate_callee (f := 12) rfl ?_); refine goesL_ (some 14) rfl rfl Try.func12 (by kernel_rfl) rfl #[.int .i64 12, .int .u64 18446744073709551609, .int .u64 2] rfl (by (try simp only [List.map_toArray, List.map_cons, List.map_nil]); first | done | rfl | (simp only [List.length_drop, List.length_take]; rfl)) ?_; (with_reducible refine (alu_Two.calls 12 18446744073709551609 2 t101 true _ A1.out).mono ?_); rintro e w41 ⟨rfl, hb⟩; refine ⟨_, rfl, ?_⟩; have n0_ := Aside0.mk (below_step (by repeat (first | (with_reducible first | exact HB.out | apply below_alloc | apply pw_below_drewN | apply below_drew1) | exact HB.out)) hb); clear HB; have HB := n0_; clear n0_; (try clear hb); (try clear hb2); (try clear hk); (try clear hi)) | ((with_reducible refine gate_callee (f := 12) rfl ?_); refine goesL_ (some 18) rfl rfl Try.func12 (by kernel_rfl) rfl #[.int .i64 14, .int .u64 18446744073709551609, .int .u64 2] rfl (by (try simp only [List.map_toArray, List.map_cons, List.map_nil]); first | done | rfl | (simp only [List.length_drop, List.length_take]; rfl)) ?_; (with_reducible refine (alu_Two.calls 14 18446744073709551609 2 t103 true _ A2.out).mono ?_); rintro e w42 ⟨rfl, hb⟩; refine ⟨_, rfl, ?_⟩; have n0_ := Aside0.mk (below_step (by repeat (first | (with_reducible first | exact HB.out | apply below_alloc | apply pw_below_drewN | apply below_drew1) | exact HB.out)) hb); clear HB; have HB := n0_; clear n0_; (try clear hb); (try clear hb2); (try clear hk); (try clear hi)) | ((with_reducible refine gate_callee (f := 12) rfl ?_); refine goesL_ (some 22) rfl rfl Try.func12 (by kernel_rfl) rfl #[.int .i64 13, .int .u64 7, .int .u64 0] rfl (by (try simp only [List.map_toArray, List.map_cons, List.map_nil]); first | done | rfl | (simp only [List.length_drop, List.length_take]; rfl)) ?_; (with_reducible refine (alu_Two.calls 13 7 0 t105 true _ A3.out).mono ?_); rintro e w43 ⟨rfl, hb⟩; refine ⟨_, rfl, ?_⟩; have n0_ := Aside0.mk (below_step (by repeat (first | (with_reducible first | exact HB.out | apply below_alloc | apply pw_below_drewN | apply below_drew1) | exact HB.out)) hb); clear HB; have HB := n0_; clear n0_; (try clear hb); (try clear hb2); (try clear hk); (try clear hi)) | ((with_reducible refine gate_callee (f := 14) rfl ?_); refine goesL_ (some 26) rfl rfl Try.func14 (by kernel_rfl) rfl #[.int .i64 24, .int .u64 9223372036854775808, .int .i64 63] rfl (by (try simp only [List.map_toArray, List.map_cons, List.map_nil]); first | done | rfl | (simp only [List.length_drop, List.length_take]; rfl)) ?_; (with_reducible refine (alu_One.calls 24 9223372036854775808 63 t107 true _ A4.out).mono ?_); rintro e w44 ⟨rfl, hb⟩; refine ⟨_, rfl, ?_⟩; have n0_ := Aside0.mk (below_step (by repeat (first | (with_reducible first | exact HB.out | apply below_alloc | apply pw_below_drewN | apply below_drew1) | exact HB.out)) hb); clear HB; have HB := n0_; clear n0_; (try clear hb); (try clear hb2); (try clear hk); (try clear hi)) | ((with_reducible refine gate_callee (f := 16) rfl ?_); refine goesL_ (some 30) rfl rfl Try.func16 (by kernel_rfl) rfl #[.int .i64 34, .int .u64 9223372036854775808, .int .u64 0] rfl (by (try simp only [List.map_toArray, List.map_cons, List.map_nil]); first | done | rfl | (simp only [List.length_drop, List.length_take]; rfl)) ?_; (with_reducible refine (alu_Taken.calls 34 9223372036854775808 0 false t110 _ A5.out).mono ?_); rintro e w' ⟨rfl, ⟨nd, rfl⟩⟩; refine ⟨_, rfl, ?_⟩) | ((with_reducible refine gate_callee (f := 12) rfl ?_); refine goesL_ (some 34) rfl rfl Try.func12 (by kernel_rfl) rfl #[.int .i64 16, .int .u64 1, .int .u64 1] rfl (by (try simp only [List.map_toArray, List.map_cons, List.map_nil]); first | done | rfl | (simp only [List.length_drop, List.length_take]; rfl)) ?_; (with_reducible refine (alu_Two.calls 16 1 1 t111 t112 _ A6.out).mono ?_); rintro e w45 ⟨rfl, hb⟩; refine ⟨_, rfl, ?_⟩; have n0_ := Aside0.mk (below_step (by repeat (first | (with_reducible first | exact HB.out | apply below_alloc | apply pw_below_drewN | apply below_drew1) | exact HB.out)) hb); clear HB; have HB := n0_; clear n0_; (try clear hb); (try clear hb2); (try clear hk); (try clear hi)))
                    go_ret
                    exact ⟨by first | rfl | (simp [errW_none, errW_some] <;> rfl) | (simp [*, errW_none, errW_some] <;> rfl), by repeat (first | (with_reducible first | exact HB.out | apply below_alloc | apply pw_below_drewN | apply below_drew1) | exact HB.out)⟩
                · rw [if_neg c14] at H
                  have c14b0 : (t107 == 18446744073709551615) = false := beq_eq_false_iff_ne.mpr c14
                  have c14b1 : (t107 != 18446744073709551615) = true := bne_iff_ne.mpr c14
                  obtain rfl := Option.some.inj H
                  go_enter Try.func11, Try.ntmps11
                  go_wp2_with (first | ((with_reducible refine gate_callee (f := 12) rfl ?_); refine goesL_ (some 14) rfl rfl Try.func12 (by kernel_rfl) rfl #[.int .i64 12, .int .u64 18446744073709551609, .int .u64 2] rfl (by (try simp only [List.map_toArray, List.map_cons, List.map_nil]); first | done | rfl | (simp only [List.length_drop, List.length_take]; rfl)) ?_; (with_reducible refine (alu_Two.calls 12 18446744073709551609 2 t101 true _ A1.out).mono ?_); rintro e w46 ⟨rfl, hb⟩; refine ⟨_, rfl, ?_⟩; have n0_ := Aside0.mk (below_step (by repeat (first | (with_reducible first | exact HB.out | apply below_alloc | apply pw_below_drewN | apply below_drew1) | exact HB.out)) hb); clear HB; have HB := n0_; clear n0_; (try clear hb); (try clear hb2); (try clear hk); (try clear hi)) | ((with_reducible refine gate_callee (f := 12) rfl ?_); refine goesL_ (some 18) rfl rfl Try.func12 (by kernel_rfl) rfl #[.int .i64 14, .int .u64 18446744073709551609, .int .u64 2] rfl (by (try simp only [List.map_toArray, List.map_cons, List.map_nil]); first | done | rfl | (simp only [List.length_drop, List.length_take]; rfl)) ?_; (with_reducible refine (alu_Two.calls 14 18446744073709551609 2 t103 true _ A2.out).mono ?_); rintro e w47 ⟨rfl, hb⟩; refine ⟨_, rfl, ?_⟩; have n0_ := Aside0.mk (below_step (by repeat (first | (with_reducible first | exact HB.out | apply below_alloc | apply pw_below_drewN | apply below_drew1) | exact HB.out)) hb); clear HB; have HB := n0_; clear n0_; (try clear hb); (try clear hb2); (try clear hk); (try clear hi)) | ((with_reducible refine gate_callee (f := 12) rfl ?_); refine goesL_ (some 22) rfl rfl Try.func12 (by kernel_rfl) rfl #[.int .i64 13, .int .u64 7, .int .u64 0] rfl (by (try simp only [List.map_toArray, List.map_cons, List.map_nil]); first | done | rfl | (simp only [List.length_drop, List.length_take]; rfl)) ?_; (with_reducible refine (alu_Two.calls 13 7 0 t105 true _ A3.out).mono ?_); rintro e w48 ⟨rfl, hb⟩; refine ⟨_, rfl, ?_⟩; have n0_ := Aside0.mk (below_step (by repeat (first | (with_reducible first | exact HB.out | apply below_alloc | apply pw_below_drewN | apply below_drew1) | exact HB.out)) hb); clear HB; have HB := n0_; clear n0_; (try clear hb); (try clear hb2); (try clear hk); (try clear hi)) | ((with_reducible refine gate_callee (f := 14) rfl ?_); refine goesL_ (some 26) rfl rfl Try.func14 (by kernel_rfl) rfl #[.int .i64 24, .int .u64 9223372036854775808, .int .i64 63] rfl (by (try simp only [List.map_toArray, List.map_cons, List.map_nil]); first | done | rfl | (simp only [List.length_drop, List.length_take]; rfl)) ?_; (with_reducible refine (alu_One.calls 24 9223372036854775808 63 t107 true _ A4.out).mono ?_); rintro e w49 ⟨rfl, hb⟩; refine ⟨_, rfl, ?_⟩; have n0_ := Aside0.mk (below_step (by repeat (first | (with_reducible first | exact HB.out | apply below_alloc | apply pw_below_drewN | apply below_drew1) | exact HB.out)) hb); clear HB; have HB := n0_; clear n0_; (try clear hb); (try clear hb2); (try clear hk); (try clear hi)) | ((with_reducible refine gate_callee (f := 16) rfl ?_); refine goesL_ (some 30) rfl rfl Try.func16 (by kernel_rfl) rfl #[.int .i64 34, .int .u64 9223372036854775808, .int .u64 0] rfl (by (try simp only [List.map_toArray, List.map_cons, List.map_nil]); first | done | rfl | (simp only [List.length_drop, List.length_take]; rfl)) ?_; (with_reducible refine (alu_Taken.calls 34 9223372036854775808 0 t109 t110 _ A5.out).mono ?_); rintro e w' ⟨rfl, ⟨nd, rfl⟩⟩; refine ⟨_, rfl, ?_⟩) | ((with_reducible refine gate_callee (f := 12) rfl ?_); refine goesL_ (some 34) rfl rfl Try.func12 (by kernel_rfl) rfl #[.int .i64 16, .int .u64 1, .int .u64 1] rfl (by (try simp only [List.map_toArray, List.map_cons, List.map_nil]); first | done | rfl | (simp only [List.length_drop, List.length_take]; rfl)) ?_; (with_reducible refine (alu_Two.calls 16 1 1 t111 t112 _ A6.out).mono ?_); rintro e w50 ⟨rfl, hb⟩; refine ⟨_, rfl, ?_⟩; have n0_ := Aside0.mk (below_step (by repeat (first | (with_reducible first | exact HB.out | apply below_alloc | apply pw_below_drewN | apply below_drew1) | exact HB.out)) hb); clear HB; have HB := n0_; clear n0_; (try clear hb); (try clear hb2); (try clear hk); (try clear hi)))
                  go_ret
                  exact ⟨by first | rfl | (simp [errW_none, errW_some] <;> rfl) | (simp [*, errW_none, errW_some] <;> rfl), by repeat (first | (with_reducible first | exact HB.out | apply below_alloc | apply pw_below_drewN | apply below_drew1) | exact HB.out)⟩
              · replace c13 := Bool.eq_false_iff.mpr c13
                subst c13
                have H1 : (some false) = some r := by rw [if_neg (show ¬ (false = true) by decide)] at H; exact H
                clear H
                have H := H1
                clear H1
                obtain rfl := Option.some.inj H
                go_enter Try.func11, Try.ntmps11
                go_wp2_with (first | ((with_reducible refine gate_callee (f := 12) rfl ?_); refine goesL_ (some 14) rfl rfl Try.func12 (by kernel_rfl) rfl #[.int .i64 12, .int .u64 18446744073709551609, .int .u64 2] rfl (by (try simp only [List.map_toArray, List.map_cons, List.map_nil]); first | done | rfl | (simp only [List.length_drop, List.length_take]; rfl)) ?_; (with_reducible refine (alu_Two.calls 12 18446744073709551609 2 t101 true _ A1.out).mono ?_); rintro e w51 ⟨rfl, hb⟩; refine ⟨_, rfl, ?_⟩; have n0_ := Aside0.mk (below_step (by repeat (first | (with_reducible first | exact HB.out | apply below_alloc | apply pw_below_drewN | apply below_drew1) | exact HB.out)) hb); clear HB; have HB := n0_; clear n0_; (try clear hb); (try clear hb2); (try clear hk); (try clear hi)) | ((with_reducible refine gate_callee (f := 12) rfl ?_); refine goesL_ (some 18) rfl rfl Try.func12 (by kernel_rfl) rfl #[.int .i64 14, .int .u64 18446744073709551609, .int .u64 2] rfl (by (try simp only [List.map_toArray, List.map_cons, List.map_nil]); first | done | rfl | (simp only [List.length_drop, List.length_take]; rfl)) ?_; (with_reducible refine (alu_Two.calls 14 18446744073709551609 2 t103 true _ A2.out).mono ?_); rintro e w52 ⟨rfl, hb⟩; refine ⟨_, rfl, ?_⟩; have n0_ := Aside0.mk (below_step (by repeat (first | (with_reducible first | exact HB.out | apply below_alloc | apply pw_below_drewN | apply below_drew1) | exact HB.out)) hb); clear HB; have HB := n0_; clear n0_; (try clear hb); (try clear hb2); (try clear hk); (try clear hi)) | ((with_reducible refine gate_callee (f := 12) rfl ?_); refine goesL_ (some 22) rfl rfl Try.func12 (by kernel_rfl) rfl #[.int .i64 13, .int .u64 7, .int .u64 0] rfl (by (try simp only [List.map_toArray, List.map_cons, List.map_nil]); first | done | rfl | (simp only [List.length_drop, List.length_take]; rfl)) ?_; (with_reducible refine (alu_Two.calls 13 7 0 t105 true _ A3.out).mono ?_); rintro e w53 ⟨rfl, hb⟩; refine ⟨_, rfl, ?_⟩; have n0_ := Aside0.mk (below_step (by repeat (first | (with_reducible first | exact HB.out | apply below_alloc | apply pw_below_drewN | apply below_drew1) | exact HB.out)) hb); clear HB; have HB := n0_; clear n0_; (try clear hb); (try clear hb2); (try clear hk); (try clear hi)) | ((with_reducible refine gate_callee (f := 14) rfl ?_); refine goesL_ (some 26) rfl rfl Try.func14 (by kernel_rfl) rfl #[.int .i64 24, .int .u64 9223372036854775808, .int .i64 63] rfl (by (try simp only [List.map_toArray, List.map_cons, List.map_nil]); first | done | rfl | (simp only [List.length_drop, List.length_take]; rfl)) ?_; (with_reducible refine (alu_One.calls 24 9223372036854775808 63 t107 false _ A4.out).mono ?_); rintro e w54 ⟨rfl, hb⟩; refine ⟨_, rfl, ?_⟩; have n0_ := Aside0.mk (below_step (by repeat (first | (with_reducible first | exact HB.out | apply below_alloc | apply pw_below_drewN | apply below_drew1) | exact HB.out)) hb); clear HB; have HB := n0_; clear n0_; (try clear hb); (try clear hb2); (try clear hk); (try clear hi)) | ((with_reducible refine gate_callee (f := 16) rfl ?_); refine goesL_ (some 30) rfl rfl Try.func16 (by kernel_rfl) rfl #[.int .i64 34, .int .u64 9223372036854775808, .int .u64 0] rfl (by (try simp only [List.map_toArray, List.map_cons, List.map_nil]); first | done | rfl | (simp only [List.length_drop, List.length_take]; rfl)) ?_; (with_reducible refine (alu_Taken.calls 34 9223372036854775808 0 t109 t110 _ A5.out).mono ?_); rintro e w' ⟨rfl, ⟨nd, rfl⟩⟩; refine ⟨_, rfl, ?_⟩) | ((with_reducible refine gate_callee (f := 12) rfl ?_); refine goesL_ (some 34) rfl rfl Try.func12 (by kernel_rfl) rfl #[.int .i64 16, .int .u64 1, .int .u64 1] rfl (by (try simp only [List.map_toArray, List.map_cons, List.map_nil]); first | done | rfl | (simp only [List.length_drop, List.length_take]; rfl)) ?_; (with_reducible refine (alu_Two.calls 16 1 1 t111 t112 _ A6.out).mono ?_); rintro e w55 ⟨rfl, hb⟩; refine ⟨_, rfl, ?_⟩; have n0_ := Aside0.mk (below_step (by repeat (first | (with_reducible first | exact HB.out | apply below_alloc | apply pw_below_drewN | apply below_drew1) | exact HB.out)) hb); clear HB; have HB := n0_; clear n0_; (try clear hb); (try clear hb2); (try clear hk); (try clear hi)))
                go_ret
                exact ⟨by first | rfl | (simp [errW_none, errW_some] <;> rfl) | (simp [*, errW_none, errW_some] <;> rfl), by repeat (first | (with_reducible first | exact HB.out | apply below_alloc | apply pw_below_drewN | apply below_drew1) | exact HB.out)⟩
            · rw [if_neg c12] at H
              have c12b0 : (t105 == 18446744073709551615) = false := beq_eq_false_iff_ne.mpr c12
              have c12b1 : (t105 != 18446744073709551615) = true := bne_iff_ne.mpr c12
              obtain rfl := Option.some.inj H
              go_enter Try.func11, Try.ntmps11
              go_wp2_with (first | ((with_reducible refine gate_callee (f := 12) rfl ?_); refine goesL_ (some 14) rfl rfl Try.func12 (by kernel_rfl) rfl #[.int .i64 12, .int .u64 18446744073709551609, .int .u64 2] rfl (by (try simp only [List.map_toArray, List.map_cons, List.map_nil]); first | done | rfl | (simp only [List.length_drop, List.length_take]; rfl)) ?_; (with_reducible refine (alu_Two.calls 12 18446744073709551609 2 t101 true _ A1.out).mono ?_); rintro e w56 ⟨rfl, hb⟩; refine ⟨_, rfl, ?_⟩; have n0_ := Aside0.mk (below_step (by repeat (first | (with_reducible first | exact HB.out | apply below_alloc | apply pw_below_drewN | apply below_drew1) | exact HB.out)) hb); clear HB; have HB := n0_; clear n0_; (try clear hb); (try clear hb2); (try clear hk); (try clear hi)) | ((with_reducible refine gate_callee (f := 12) rfl ?_); refine goesL_ (some 18) rfl rfl Try.func12 (by kernel_rfl) rfl #[.int .i64 14, .int .u64 18446744073709551609, .int .u64 2] rfl (by (try simp only [List.map_toArray, List.map_cons, List.map_nil]); first | done | rfl | (simp only [List.length_drop, List.length_take]; rfl)) ?_; (with_reducible refine (alu_Two.calls 14 18446744073709551609 2 t103 true _ A2.out).mono ?_); rintro e w57 ⟨rfl, hb⟩; refine ⟨_, rfl, ?_⟩; have n0_ := Aside0.mk (below_step (by repeat (first | (with_reducible first | exact HB.out | apply below_alloc | apply pw_below_drewN | apply below_drew1) | exact HB.out)) hb); clear HB; have HB := n0_; clear n0_; (try clear hb); (try clear hb2); (try clear hk); (try clear hi)) | ((with_reducible refine gate_callee (f := 12) rfl ?_); refine goesL_ (some 22) rfl rfl Try.func12 (by kernel_rfl) rfl #[.int .i64 13, .int .u64 7, .int .u64 0] rfl (by (try simp only [List.map_toArray, List.map_cons, List.map_nil]); first | done | rfl | (simp only [List.length_drop, List.length_take]; rfl)) ?_; (with_reducible refine (alu_Two.calls 13 7 0 t105 true _ A3.out).mono ?_); rintro e w58 ⟨rfl, hb⟩; refine ⟨_, rfl, ?_⟩; have n0_ := Aside0.mk (below_step (by repeat (first | (with_reducible first | exact HB.out | apply below_alloc | apply pw_below_drewN | apply below_drew1) | exact HB.out)) hb); clear HB; have HB := n0_; clear n0_; (try clear hb); (try clear hb2); (try clear hk); (try clear hi)) | ((with_reducible refine gate_callee (f := 14) rfl ?_); refine goesL_ (some 26) rfl rfl Try.func14 (by kernel_rfl) rfl #[.int .i64 24, .int .u64 9223372036854775808, .int .i64 63] rfl (by (try simp only [List.map_toArray, List.map_cons, List.map_nil]); first | done | rfl | (simp only [List.length_drop, List.length_take]; rfl)) ?_; (with_reducible refine (alu_One.calls 24 9223372036854775808 63 t107 t108 _ A4.out).mono ?_); rintro e w59 ⟨rfl, hb⟩; refine ⟨_, rfl, ?_⟩; have n0_ := Aside0.mk (below_step (by repeat (first | (with_reducible first | exact HB.out | apply below_alloc | apply pw_below_drewN | apply below_drew1) | exact HB.out)) hb); clear HB; have HB := n0_; clear n0_; (try clear hb); (try clear hb2); (try clear hk); (try clear hi)) | ((with_reducible refine gate_callee (f := 16) rfl ?_); refine goesL_ (some 30) rfl rfl Try.func16 (by kernel_rfl) rfl #[.int .i64 34, .int .u64 9223372036854775808, .int .u64 0] rfl (by (try simp only [List.map_toArray, List.map_cons, List.map_nil]); first | done | rfl | (simp only [List.length_drop, List.length_take]; rfl)) ?_; (with_reducible refine (alu_Taken.calls 34 9223372036854775808 0 t109 t110 _ A5.out).mono ?_); rintro e w' ⟨rfl, ⟨nd, rfl⟩⟩; refine ⟨_, rfl, ?_⟩) | ((with_reducible refine gate_callee (f := 12) rfl ?_); refine goesL_ (some 34) rfl rfl Try.func12 (by kernel_rfl) rfl #[.int .i64 16, .int .u64 1, .int .u64 1] rfl (by (try simp only [List.map_toArray, List.map_cons, List.map_nil]); first | done | rfl | (simp only [List.length_drop, List.length_take]; rfl)) ?_; (with_reducible refine (alu_Two.calls 16 1 1 t111 t112 _ A6.out).mono ?_); rintro e w60 ⟨rfl, hb⟩; refine ⟨_, rfl, ?_⟩; have n0_ := Aside0.mk (below_step (by repeat (first | (with_reducible first | exact HB.out | apply below_alloc | apply pw_below_drewN | apply below_drew1) | exact HB.out)) hb); clear HB; have HB := n0_; clear n0_; (try clear hb); (try clear hb2); (try clear hk); (try clear hi)))
              go_ret
              exact ⟨by first | rfl | (simp [errW_none, errW_some] <;> rfl) | (simp [*, errW_none, errW_some] <;> rfl), by repeat (first | (with_reducible first | exact HB.out | apply below_alloc | apply pw_below_drewN | apply below_drew1) | exact HB.out)⟩
          · replace c11 := Bool.eq_false_iff.mpr c11
            subst c11
            have H1 : (some false) = some r := by rw [if_neg (show ¬ (false = true) by decide)] at H; exact H
            clear H
            have H := H1
            clear H1
            obtain rfl := Option.some.inj H
            go_enter Try.func11, Try.ntmps11
            go_wp2_with (first | ((with_reducible refine gate_callee (f := 12) rfl ?_); refine goesL_ (some 14) rfl rfl Try.func12 (by kernel_rfl) rfl #[.int .i64 12, .int .u64 18446744073709551609, .int .u64 2] rfl (by (try simp only [List.map_toArray, List.map_cons, List.map_nil]); first | done | rfl | (simp only [List.length_drop, List.length_take]; rfl)) ?_; (with_reducible refine (alu_Two.calls 12 18446744073709551609 2 t101 true _ A1.out).mono ?_); rintro e w61 ⟨rfl, hb⟩; refine ⟨_, rfl, ?_⟩; have n0_ := Aside0.mk (below_step (by repeat (first | (with_reducible first | exact HB.out | apply below_alloc | apply pw_below_drewN | apply below_drew1) | exact HB.out)) hb); clear HB; have HB := n0_; clear n0_; (try clear hb); (try clear hb2); (try clear hk); (try clear hi)) | ((with_reducible refine gate_callee (f := 12) rfl ?_); refine goesL_ (some 18) rfl rfl Try.func12 (by kernel_rfl) rfl #[.int .i64 14, .int .u64 18446744073709551609, .int .u64 2] rfl (by (try simp only [List.map_toArray, List.map_cons, List.map_nil]); first | done | rfl | (simp only [List.length_drop, List.length_take]; rfl)) ?_; (with_reducible refine (alu_Two.calls 14 18446744073709551609 2 t103 true _ A2.out).mono ?_); rintro e w62 ⟨rfl, hb⟩; refine ⟨_, rfl, ?_⟩; have n0_ := Aside0.mk (below_step (by repeat (first | (with_reducible first | exact HB.out | apply below_alloc | apply pw_below_drewN | apply below_drew1) | exact HB.out)) hb); clear HB; have HB := n0_; clear n0_; (try clear hb); (try clear hb2); (try clear hk); (try clear hi)) | ((with_reducible refine gate_callee (f := 12) rfl ?_); refine goesL_ (some 22) rfl rfl Try.func12 (by kernel_rfl) rfl #[.int .i64 13, .int .u64 7, .int .u64 0] rfl (by (try simp only [List.map_toArray, List.map_cons, List.map_nil]); first | done | rfl | (simp only [List.length_drop, List.length_take]; rfl)) ?_; (with_reducible refine (alu_Two.calls 13 7 0 t105 false _ A3.out).mono ?_); rintro e w63 ⟨rfl, hb⟩; refine ⟨_, rfl, ?_⟩; have n0_ := Aside0.mk (below_step (by repeat (first | (with_reducible first | exact HB.out | apply below_alloc | apply pw_below_drewN | apply below_drew1) | exact HB.out)) hb); clear HB; have HB := n0_; clear n0_; (try clear hb); (try clear hb2); (try clear hk); (try clear hi)) | ((with_reducible refine gate_callee (f := 14) rfl ?_); refine goesL_ (some 26) rfl rfl Try.func14 (by kernel_rfl) rfl #[.int .i64 24, .int .u64 9223372036854775808, .int .i64 63] rfl (by (try simp only [List.map_toArray, List.map_cons, List.map_nil]); first | done | rfl | (simp only [List.length_drop, List.length_take]; rfl)) ?_; (with_reducible refine (alu_One.calls 24 9223372036854775808 63 t107 t108 _ A4.out).mono ?_); rintro e w64 ⟨rfl, hb⟩; refine ⟨_, rfl, ?_⟩; have n0_ := Aside0.mk (below_step (by repeat (first | (with_reducible first | exact HB.out | apply below_alloc | apply pw_below_drewN | apply below_drew1) | exact HB.out)) hb); clear HB; have HB := n0_; clear n0_; (try clear hb); (try clear hb2); (try clear hk); (try clear hi)) | ((with_reducible refine gate_callee (f := 16) rfl ?_); refine goesL_ (some 30) rfl rfl Try.func16 (by kernel_rfl) rfl #[.int .i64 34, .int .u64 9223372036854775808, .int .u64 0] rfl (by (try simp only [List.map_toArray, List.map_cons, List.map_nil]); first | done | rfl | (simp only [List.length_drop, List.length_take]; rfl)) ?_; (with_reducible refine (alu_Taken.calls 34 9223372036854775808 0 t109 t110 _ A5.out).mono ?_); rintro e w' ⟨rfl, ⟨nd, rfl⟩⟩; refine ⟨_, rfl, ?_⟩) | ((with_reducible refine gate_callee (f := 12) rfl ?_); refine goesL_ (some 34) rfl rfl Try.func12 (by kernel_rfl) rfl #[.int .i64 16, .int .u64 1, .int .u64 1] rfl (by (try simp only [List.map_toArray, List.map_cons, List.map_nil]); first | done | rfl | (simp only [List.length_drop, List.length_take]; rfl)) ?_; (with_reducible refine (alu_Two.calls 16 1 1 t111 t112 _ A6.out).mono ?_); rintro e w65 ⟨rfl, hb⟩; refine ⟨_, rfl, ?_⟩; have n0_ := Aside0.mk (below_step (by repeat (first | (with_reducible first | exact HB.out | apply below_alloc | apply pw_below_drewN | apply below_drew1) | exact HB.out)) hb); clear HB; have HB := n0_; clear n0_; (try clear hb); (try clear hb2); (try clear hk); (try clear hi)))
            go_ret
            exact ⟨by first | rfl | (simp [errW_none, errW_some] <;> rfl) | (simp [*, errW_none, errW_some] <;> rfl), by repeat (first | (with_reducible first | exact HB.out | apply below_alloc | apply pw_below_drewN | apply below_drew1) | exact HB.out)⟩
        · rw [if_neg c10] at H
          have c10b0 : (t103 == 18446744073709551615) = false := beq_eq_false_iff_ne.mpr c10
          have c10b1 : (t103 != 18446744073709551615) = true := bne_iff_ne.mpr c10
          obtain rfl := Option.some.inj H
          go_enter Try.func11, Try.ntmps11
          go_wp2_with (first | ((with_reducible refine gate_callee (f := 12) rfl ?_); refine goesL_ (some 14) rfl rfl Try.func12 (by kernel_rfl) rfl #[.int .i64 12, .int .u64 18446744073709551609, .int .u64 2] rfl (by (try simp only [List.map_toArray, List.map_cons, List.map_nil]); first | done | rfl | (simp only [List.length_drop, List.length_take]; rfl)) ?_; (with_reducible refine (alu_Two.calls 12 18446744073709551609 2 t101 true _ A1.out).mono ?_); rintro e w66 ⟨rfl, hb⟩; refine ⟨_, rfl, ?_⟩; have n0_ := Aside0.mk (below_step (by repeat (first | (with_reducible first | exact HB.out | apply below_alloc | apply pw_below_drewN | apply below_drew1) | exact HB.out)) hb); clear HB; have HB := n0_; clear n0_; (try clear hb); (try clear hb2); (try clear hk); (try clear hi)) | ((with_reducible refine gate_callee (f := 12) rfl ?_); refine goesL_ (some 18) rfl rfl Try.func12 (by kernel_rfl) rfl #[.int .i64 14, .int .u64 18446744073709551609, .int .u64 2] rfl (by (try simp only [List.map_toArray, List.map_cons, List.map_nil]); first | done | rfl | (simp only [List.length_drop, List.length_take]; rfl)) ?_; (with_reducible refine (alu_Two.calls 14 18446744073709551609 2 t103 true _ A2.out).mono ?_); rintro e w67 ⟨rfl, hb⟩; refine ⟨_, rfl, ?_⟩; have n0_ := Aside0.mk (below_step (by repeat (first | (with_reducible first | exact HB.out | apply below_alloc | apply pw_below_drewN | apply below_drew1) | exact HB.out)) hb); clear HB; have HB := n0_; clear n0_; (try clear hb); (try clear hb2); (try clear hk); (try clear hi)) | ((with_reducible refine gate_callee (f := 12) rfl ?_); refine goesL_ (some 22) rfl rfl Try.func12 (by kernel_rfl) rfl #[.int .i64 13, .int .u64 7, .int .u64 0] rfl (by (try simp only [List.map_toArray, List.map_cons, List.map_nil]); first | done | rfl | (simp only [List.length_drop, List.length_take]; rfl)) ?_; (with_reducible refine (alu_Two.calls 13 7 0 t105 t106 _ A3.out).mono ?_); rintro e w68 ⟨rfl, hb⟩; refine ⟨_, rfl, ?_⟩; have n0_ := Aside0.mk (below_step (by repeat (first | (with_reducible first | exact HB.out | apply below_alloc | apply pw_below_drewN | apply below_drew1) | exact HB.out)) hb); clear HB; have HB := n0_; clear n0_; (try clear hb); (try clear hb2); (try clear hk); (try clear hi)) | ((with_reducible refine gate_callee (f := 14) rfl ?_); refine goesL_ (some 26) rfl rfl Try.func14 (by kernel_rfl) rfl #[.int .i64 24, .int .u64 9223372036854775808, .int .i64 63] rfl (by (try simp only [List.map_toArray, List.map_cons, List.map_nil]); first | done | rfl | (simp only [List.length_drop, List.length_take]; rfl)) ?_; (with_reducible refine (alu_One.calls 24 9223372036854775808 63 t107 t108 _ A4.out).mono ?_); rintro e w69 ⟨rfl, hb⟩; refine ⟨_, rfl, ?_⟩; have n0_ := Aside0.mk (below_step (by repeat (first | (with_reducible first | exact HB.out | apply below_alloc | apply pw_below_drewN | apply below_drew1) | exact HB.out)) hb); clear HB; have HB := n0_; clear n0_; (try clear hb); (try clear hb2); (try clear hk); (try clear hi)) | ((with_reducible refine gate_callee (f := 16) rfl ?_); refine goesL_ (some 30) rfl rfl Try.func16 (by kernel_rfl) rfl #[.int .i64 34, .int .u64 9223372036854775808, .int .u64 0] rfl (by (try simp only [List.map_toArray, List.map_cons, List.map_nil]); first | done | rfl | (simp only [List.length_drop, List.length_take]; rfl)) ?_; (with_reducible refine (alu_Taken.calls 34 9223372036854775808 0 t109 t110 _ A5.out).mono ?_); rintro e w' ⟨rfl, ⟨nd, rfl⟩⟩; refine ⟨_, rfl, ?_⟩) | ((with_reducible refine gate_callee (f := 12) rfl ?_); refine goesL_ (some 34) rfl rfl Try.func12 (by kernel_rfl) rfl #[.int .i64 16, .int .u64 1, .int .u64 1] rfl (by (try simp only [List.map_toArray, List.map_cons, List.map_nil]); first | done | rfl | (simp only [List.length_drop, List.length_take]; rfl)) ?_; (with_reducible refine (alu_Two.calls 16 1 1 t111 t112 _ A6.out).mono ?_); rintro e w70 ⟨rfl, hb⟩; refine ⟨_, rfl, ?_⟩; have n0_ := Aside0.mk (below_step (by repeat (first | (with_reducible first | exact HB.out | apply below_alloc | apply pw_below_drewN | apply below_drew1) | exact HB.out)) hb); clear HB; have HB := n0_; clear n0_; (try clear hb); (try clear hb2); (try clear hk); (try clear hi)))
          go_ret
          exact ⟨by first | rfl | (simp [errW_none, errW_some] <;> rfl) | (simp [*, errW_none, errW_some] <;> rfl), by repeat (first | (with_reducible first | exact HB.out | apply below_alloc | apply pw_below_drewN | apply below_drew1) | exact HB.out)⟩
      · replace c9 := Bool.eq_false_iff.mpr c9
        subst c9
        have H1 : (some false) = some r := by rw [if_neg (show ¬ (false = true) by decide)] at H; exact H
        clear H
        have H := H1
        clear H1
        obtain rfl := Option.some.inj H
        go_enter Try.func11, Try.ntmps11
        go_wp2_with (first | ((with_reducible refine gate_callee (f := 12) rfl ?_); refine goesL_ (some 14) rfl rfl Try.func12 (by kernel_rfl) rfl #[.int .i64 12, .int .u64 18446744073709551609, .int .u64 2] rfl (by (try simp only [List.map_toArray, List.map_cons, List.map_nil]); first | done | rfl | (simp only [List.length_drop, List.length_take]; rfl)) ?_; (with_reducible refine (alu_Two.calls 12 18446744073709551609 2 t101 true _ A1.out).mono ?_); rintro e w71 ⟨rfl, hb⟩; refine ⟨_, rfl, ?_⟩; have n0_ := Aside0.mk (below_step (by repeat (first | (with_reducible first | exact HB.out | apply below_alloc | apply pw_below_drewN | apply below_drew1) | exact HB.out)) hb); clear HB; have HB := n0_; clear n0_; (try clear hb); (try clear hb2); (try clear hk); (try clear hi)) | ((with_reducible refine gate_callee (f := 12) rfl ?_); refine goesL_ (some 18) rfl rfl Try.func12 (by kernel_rfl) rfl #[.int .i64 14, .int .u64 18446744073709551609, .int .u64 2] rfl (by (try simp only [List.map_toArray, List.map_cons, List.map_nil]); first | done | rfl | (simp only [List.length_drop, List.length_take]; rfl)) ?_; (with_reducible refine (alu_Two.calls 14 18446744073709551609 2 t103 false _ A2.out).mono ?_); rintro e w72 ⟨rfl, hb⟩; refine ⟨_, rfl, ?_⟩; have n0_ := Aside0.mk (below_step (by repeat (first | (with_reducible first | exact HB.out | apply below_alloc | apply pw_below_drewN | apply below_drew1) | exact HB.out)) hb); clear HB; have HB := n0_; clear n0_; (try clear hb); (try clear hb2); (try clear hk); (try clear hi)) | ((with_reducible refine gate_callee (f := 12) rfl ?_); refine goesL_ (some 22) rfl rfl Try.func12 (by kernel_rfl) rfl #[.int .i64 13, .int .u64 7, .int .u64 0] rfl (by (try simp only [List.map_toArray, List.map_cons, List.map_nil]); first | done | rfl | (simp only [List.length_drop, List.length_take]; rfl)) ?_; (with_reducible refine (alu_Two.calls 13 7 0 t105 t106 _ A3.out).mono ?_); rintro e w73 ⟨rfl, hb⟩; refine ⟨_, rfl, ?_⟩; have n0_ := Aside0.mk (below_step (by repeat (first | (with_reducible first | exact HB.out | apply below_alloc | apply pw_below_drewN | apply below_drew1) | exact HB.out)) hb); clear HB; have HB := n0_; clear n0_; (try clear hb); (try clear hb2); (try clear hk); (try clear hi)) | ((with_reducible refine gate_callee (f := 14) rfl ?_); refine goesL_ (some 26) rfl rfl Try.func14 (by kernel_rfl) rfl #[.int .i64 24, .int .u64 9223372036854775808, .int .i64 63] rfl (by (try simp only [List.map_toArray, List.map_cons, List.map_nil]); first | done | rfl | (simp only [List.length_drop, List.length_take]; rfl)) ?_; (with_reducible refine (alu_One.calls 24 9223372036854775808 63 t107 t108 _ A4.out).mono ?_); rintro e w74 ⟨rfl, hb⟩; refine ⟨_, rfl, ?_⟩; have n0_ := Aside0.mk (below_step (by repeat (first | (with_reducible first | exact HB.out | apply below_alloc | apply pw_below_drewN | apply below_drew1) | exact HB.out)) hb); clear HB; have HB := n0_; clear n0_; (try clear hb); (try clear hb2); (try clear hk); (try clear hi)) | ((with_reducible refine gate_callee (f := 16) rfl ?_); refine goesL_ (some 30) rfl rfl Try.func16 (by kernel_rfl) rfl #[.int .i64 34, .int .u64 9223372036854775808, .int .u64 0] rfl (by (try simp only [List.map_toArray, List.map_cons, List.map_nil]); first | done | rfl | (simp only [List.length_drop, List.length_take]; rfl)) ?_; (with_reducible refine (alu_Taken.calls 34 9223372036854775808 0 t109 t110 _ A5.out).mono ?_); rintro e w' ⟨rfl, ⟨nd, rfl⟩⟩; refine ⟨_, rfl, ?_⟩) | ((with_reducible refine gate_callee (f := 12) rfl ?_); refine goesL_ (some 34) rfl rfl Try.func12 (by kernel_rfl) rfl #[.int .i64 16, .int .u64 1, .int .u64 1] rfl (by (try simp only [List.map_toArray, List.map_cons, List.map_nil]); first | done | rfl | (simp only [List.length_drop, List.length_take]; rfl)) ?_; (with_reducible refine (alu_Two.calls 16 1 1 t111 t112 _ A6.out).mono ?_); rintro e w75 ⟨rfl, hb⟩; refine ⟨_, rfl, ?_⟩; have n0_ := Aside0.mk (below_step (by repeat (first | (with_reducible first | exact HB.out | apply below_alloc | apply pw_below_drewN | apply below_drew1) | exact HB.out)) hb); clear HB; have HB := n0_; clear n0_; (try clear hb); (try clear hb2); (try clear hk); (try clear hi)))
        go_ret
        exact ⟨by first | rfl | (simp [errW_none, errW_some] <;> rfl) | (simp [*, errW_none, errW_some] <;> rfl), by repeat (first | (with_reducible first | exact HB.out | apply below_alloc | apply pw_below_drewN | apply below_drew1) | exact HB.out)⟩
    · rw [if_neg c8] at H
      have c8b0 : (t101 == 18446744073709551613) = false := beq_eq_false_iff_ne.mpr c8
      have c8b1 : (t101 != 18446744073709551613) = true := bne_iff_ne.mpr c8
      obtain rfl := Option.some.inj H
      go_enter Try.func11, Try.ntmps11
      go_wp2_with (first | ((with_reducible refine gate_callee (f := 12) rfl ?_); refine goesL_ (some 14) rfl rfl Try.func12 (by kernel_rfl) rfl #[.int .i64 12, .int .u64 18446744073709551609, .int .u64 2] rfl (by (try simp only [List.map_toArray, List.map_cons, List.map_nil]); first | done | rfl | (simp only [List.length_drop, List.length_take]; rfl)) ?_; (with_reducible refine (alu_Two.calls 12 18446744073709551609 2 t101 true _ A1.out).mono ?_); rintro e w76 ⟨rfl, hb⟩; refine ⟨_, rfl, ?_⟩; have n0_ := Aside0.mk (below_step (by repeat (first | (with_reducible first | exact HB.out | apply below_alloc | apply pw_below_drewN | apply below_drew1) | exact HB.out)) hb); clear HB; have HB := n0_; clear n0_; (try clear hb); (try clear hb2); (try clear hk); (try clear hi)) | ((with_reducible refine gate_callee (f := 12) rfl ?_); refine goesL_ (some 18) rfl rfl Try.func12 (by kernel_rfl) rfl #[.int .i64 14, .int .u64 18446744073709551609, .int .u64 2] rfl (by (try simp only [List.map_toArray, List.map_cons, List.map_nil]); first | done | rfl | (simp only [List.length_drop, List.length_take]; rfl)) ?_; (with_reducible refine (alu_Two.calls 14 18446744073709551609 2 t103 t104 _ A2.out).mono ?_); rintro e w77 ⟨rfl, hb⟩; refine ⟨_, rfl, ?_⟩; have n0_ := Aside0.mk (below_step (by repeat (first | (with_reducible first | exact HB.out | apply below_alloc | apply pw_below_drewN | apply below_drew1) | exact HB.out)) hb); clear HB; have HB := n0_; clear n0_; (try clear hb); (try clear hb2); (try clear hk); (try clear hi)) | ((with_reducible refine gate_callee (f := 12) rfl ?_); refine goesL_ (some 22) rfl rfl Try.func12 (by kernel_rfl) rfl #[.int .i64 13, .int .u64 7, .int .u64 0] rfl (by (try simp only [List.map_toArray, List.map_cons, List.map_nil]); first | done | rfl | (simp only [List.length_drop, List.length_take]; rfl)) ?_; (with_reducible refine (alu_Two.calls 13 7 0 t105 t106 _ A3.out).mono ?_); rintro e w78 ⟨rfl, hb⟩; refine ⟨_, rfl, ?_⟩; have n0_ := Aside0.mk (below_step (by repeat (first | (with_reducible first | exact HB.out | apply below_alloc | apply pw_below_drewN | apply below_drew1) | exact HB.out)) hb); clear HB; have HB := n0_; clear n0_; (try clear hb); (try clear hb2); (try clear hk); (try clear hi)) | ((with_reducible refine gate_callee (f := 14) rfl ?_); refine goesL_ (some 26) rfl rfl Try.func14 (by kernel_rfl) rfl #[.int .i64 24, .int .u64 9223372036854775808, .int .i64 63] rfl (by (try simp only [List.map_toArray, List.map_cons, List.map_nil]); first | done | rfl | (simp only [List.length_drop, List.length_take]; rfl)) ?_; (with_reducible refine (alu_One.calls 24 9223372036854775808 63 t107 t108 _ A4.out).mono ?_); rintro e w79 ⟨rfl, hb⟩; refine ⟨_, rfl, ?_⟩; have n0_ := Aside0.mk (below_step (by repeat (first | (with_reducible first | exact HB.out | apply below_alloc | apply pw_below_drewN | apply below_drew1) | exact HB.out)) hb); clear HB; have HB := n0_; clear n0_; (try clear hb); (try clear hb2); (try clear hk); (try clear hi)) | ((with_reducible refine gate_callee (f := 16) rfl ?_); refine goesL_ (some 30) rfl rfl Try.func16 (by kernel_rfl) rfl #[.int .i64 34, .int .u64 9223372036854775808, .int .u64 0] rfl (by (try simp only [List.map_toArray, List.map_cons, List.map_nil]); first | done | rfl | (simp only [List.length_drop, List.length_take]; rfl)) ?_; (with_reducible refine (alu_Taken.calls 34 9223372036854775808 0 t109 t110 _ A5.out).mono ?_); rintro e w' ⟨rfl, ⟨nd, rfl⟩⟩; refine ⟨_, rfl, ?_⟩) | ((with_reducible refine gate_callee (f := 12) rfl ?_); refine goesL_ (some 34) rfl rfl Try.func12 (by kernel_rfl) rfl #[.int .i64 16, .int .u64 1, .int .u64 1] rfl (by (try simp only [List.map_toArray, List.map_cons, List.map_nil]); first | done | rfl | (simp only [List.length_drop, List.length_take]; rfl)) ?_; (with_reducible refine (alu_Two.calls 16 1 1 t111 t112 _ A6.out).mono ?_); rintro e w80 ⟨rfl, hb⟩; refine ⟨_, rfl, ?_⟩; have n0_ := Aside0.mk (below_step (by repeat (first | (with_reducible first | exact HB.out | apply below_alloc | apply pw_below_drewN | apply below_drew1) | exact HB.out)) hb); clear HB; have HB := n0_; clear n0_; (try clear hb); (try clear hb2); (try clear hk); (try clear hi)))
      go_ret
      exact ⟨by first | rfl | (simp [errW_none, errW_some] <;> rfl) | (simp [*, errW_none, errW_some] <;> rfl), by repeat (first | (with_reducible first | exact HB.out | apply below_alloc | apply pw_below_drewN | apply below_drew1) | exact HB.out)⟩
  · replace c7 := Bool.eq_false_iff.mpr c7
    subst c7
    have H1 : (some false) = some r := by rw [if_neg (show ¬ (false = true) by decide)] at H; exact H
    clear H
    have H := H1
    clear H1
    obtain rfl := Option.some.inj H
    go_enter Try.func11, Try.ntmps11
    go_wp2_with (first | ((with_reducible refine gate_callee (f := 12) rfl ?_); refine goesL_ (some 14) rfl rfl Try.func12 (by kernel_rfl) rfl #[.int .i64 12, .int .u64 18446744073709551609, .int .u64 2] rfl (by (try simp only [List.map_toArray, List.map_cons, List.map_nil]); first | done | rfl | (simp only [List.length_drop, List.length_take]; rfl)) ?_; (with_reducible refine (alu_Two.calls 12 18446744073709551609 2 t101 false _ A1.out).mono ?_); rintro e w81 ⟨rfl, hb⟩; refine ⟨_, rfl, ?_⟩; have n0_ := Aside0.mk (below_step (by repeat (first | (with_reducible first | exact HB.out | apply below_alloc | apply pw_below_drewN | apply below_drew1) | exact HB.out)) hb); clear HB; have HB := n0_; clear n0_; (try clear hb); (try clear hb2); (try clear hk); (try clear hi)) | ((with_reducible refine gate_callee (f := 12) rfl ?_); refine goesL_ (some 18) rfl rfl Try.func12 (by kernel_rfl) rfl #[.int .i64 14, .int .u64 18446744073709551609, .int .u64 2] rfl (by (try simp only [List.map_toArray, List.map_cons, List.map_nil]); first | done | rfl | (simp only [List.length_drop, List.length_take]; rfl)) ?_; (with_reducible refine (alu_Two.calls 14 18446744073709551609 2 t103 t104 _ A2.out).mono ?_); rintro e w82 ⟨rfl, hb⟩; refine ⟨_, rfl, ?_⟩; have n0_ := Aside0.mk (below_step (by repeat (first | (with_reducible first | exact HB.out | apply below_alloc | apply pw_below_drewN | apply below_drew1) | exact HB.out)) hb); clear HB; have HB := n0_; clear n0_; (try clear hb); (try clear hb2); (try clear hk); (try clear hi)) | ((with_reducible refine gate_callee (f := 12) rfl ?_); refine goesL_ (some 22) rfl rfl Try.func12 (by kernel_rfl) rfl #[.int .i64 13, .int .u64 7, .int .u64 0] rfl (by (try simp only [List.map_toArray, List.map_cons, List.map_nil]); first | done | rfl | (simp only [List.length_drop, List.length_take]; rfl)) ?_; (with_reducible refine (alu_Two.calls 13 7 0 t105 t106 _ A3.out).mono ?_); rintro e w83 ⟨rfl, hb⟩; refine ⟨_, rfl, ?_⟩; have n0_ := Aside0.mk (below_step (by repeat (first | (with_reducible first | exact HB.out | apply below_alloc | apply pw_below_drewN | apply below_drew1) | exact HB.out)) hb); clear HB; have HB := n0_; clear n0_; (try clear hb); (try clear hb2); (try clear hk); (try clear hi)) | ((with_reducible refine gate_callee (f := 14) rfl ?_); refine goesL_ (some 26) rfl rfl Try.func14 (by kernel_rfl) rfl #[.int .i64 24, .int .u64 9223372036854775808, .int .i64 63] rfl (by (try simp only [List.map_toArray, List.map_cons, List.map_nil]); first | done | rfl | (simp only [List.length_drop, List.length_take]; rfl)) ?_; (with_reducible refine (alu_One.calls 24 9223372036854775808 63 t107 t108 _ A4.out).mono ?_); rintro e w84 ⟨rfl, hb⟩; refine ⟨_, rfl, ?_⟩; have n0_ := Aside0.mk (below_step (by repeat (first | (with_reducible first | exact HB.out | apply below_alloc | apply pw_below_drewN | apply below_drew1) | exact HB.out)) hb); clear HB; have HB := n0_; clear n0_; (try clear hb); (try clear hb2); (try clear hk); (try clear hi)) | ((with_reducible refine gate_callee (f := 16) rfl ?_); refine goesL_ (some 30) rfl rfl Try.func16 (by kernel_rfl) rfl #[.int .i64 34, .int .u64 9223372036854775808, .int .u64 0] rfl (by (try simp only [List.map_toArray, List.map_cons, List.map_nil]); first | done | rfl | (simp only [List.length_drop, List.length_take]; rfl)) ?_; (with_reducible refine (alu_Taken.calls 34 9223372036854775808 0 t109 t110 _ A5.out).mono ?_); rintro e w' ⟨rfl, ⟨nd, rfl⟩⟩; refine ⟨_, rfl, ?_⟩) | ((with_reducible refine gate_callee (f := 12) rfl ?_); refine goesL_ (some 34) rfl rfl Try.func12 (by kernel_rfl) rfl #[.int .i64 16, .int .u64 1, .int .u64 1] rfl (by (try simp only [List.map_toArray, List.map_cons, List.map_nil]); first | done | rfl | (simp only [List.length_drop, List.length_take]; rfl)) ?_; (with_reducible refine (alu_Two.calls 16 1 1 t111 t112 _ A6.out).mono ?_); rintro e w85 ⟨rfl, hb⟩; refine ⟨_, rfl, ?_⟩; have n0_ := Aside0.mk (below_step (by repeat (first | (with_reducible first | exact HB.out | apply below_alloc | apply pw_below_drewN | apply below_drew1) | exact HB.out)) hb); clear HB; have HB := n0_; clear n0_; (try clear hb); (try clear hb2); (try clear hk); (try clear hi)))
    go_ret
    exact ⟨by first | rfl | (simp [errW_none, errW_some] <;> rfl) | (simp [*, errW_none, errW_some] <;> rfl), by repeat (first | (with_reducible first | exact HB.out | apply below_alloc | apply pw_below_drewN | apply below_drew1) | exact HB.out)⟩

/-! ### caponierlaw03_AluBranches: function 5 -/
mutual
def caponierlaw03_AluBranches.l0 : Nat → Int → Int → List Int → Int → Int → Option (Bool)
  | 0, _, _, _, _, _ => none
  | k + 1, x0, x1, x24, x25, x26 => if x26 < x25 then (if 0 ≤ x26 then (if x26 < (x24.length : Int) then ((alu_Taken.f (rd x24 x26) x0 x1).bind fun bt120 => ((alu_Taken.f (wrap64 ((rd x24 x26) + 1)) x0 x1).bind fun bt122 => (if bt120.2 = true then (if bt122.2 = true then (if (bt120.1 == bt122.1) = true then (some false) else (caponierlaw03_AluBranches.l0 k x0 x1 x24 x25 (wrap64 (x26 + 1)))) else (some false)) else (some false)))) else (none)) else (none)) else ((some (([34, 36] : List Int) : List Int)).bind fun y124 => (caponierlaw03_AluBranches.l1 k x0 x1 y124 (y124.length : Int) 0))
def caponierlaw03_AluBranches.l1 : Nat → Int → Int → List Int → Int → Int → Option (Bool)
  | 0, _, _, _, _, _ => none
  | k + 1, x0, x1, x57, x58, x59 => if x59 < x58 then (if 0 ≤ x59 then (if x59 < (x57.length : Int) then ((alu_Taken.f (rd x57 x59) x0 x1).bind fun bt128 => ((alu_Taken.f (rd x57 x59) x1 x0).bind fun bt130 => ((alu_Taken.f 32 x0 x1).bind fun bt132 => ((some (([bt128.1, bt130.1, bt132.1] : List Bool) : List Bool)).bind fun y134 => (caponierlaw03_AluBranches.l2 k x0 x1 0 x57 x58 x59 y134 (y134.length : Int) 0))))) else (none)) else (none)) else (some true)
def caponierlaw03_AluBranches.l2 : Nat → Int → Int → Int → List Int → Int → Int → List Bool → Int → Int → Option (Bool)
  | 0, _, _, _, _, _, _, _, _, _ => none
  | k + 1, x0, x1, x19, x57, x58, x59, x86, x87, x88 => if x88 < x87 then (if 0 ≤ x88 then (if x88 < (x86.length : Int) then (if rdOf false x86 x88 = true then (caponierlaw03_AluBranches.l2 k x0 x1 (wrap64 (x19 + 1)) x57 x58 x59 x86 x87 (wrap64 (x88 + 1))) else (caponierlaw03_AluBranches.l2 k x0 x1 x19 x57 x58 x59 x86 x87 (wrap64 (x88 + 1)))) else (none)) else (none)) else (if x19 = 1 then (caponierlaw03_AluBranches.l1 k x0 x1 x57 x58 (wrap64 (x59 + 1))) else (some false))
end
def caponierlaw03_AluBranches.f (k : Nat) (a0 : Int) (a1 : Int) : Option (Bool) := (caponierlaw03_awake.f).bind fun t115 => (if t115 = true then ((some (([32, 34, 36] : List Int) : List Int)).bind fun y116 => (caponierlaw03_AluBranches.l0 k a0 a1 y116 (y116.length : Int) 0)) else (some false))
theorem caponierlaw03_AluBranches.mono_l : ∀ k, (∀ y0 y1 y2 y3 y4, LeO (caponierlaw03_AluBranches.l0 k y0 y1 y2 y3 y4) (caponierlaw03_AluBranches.l0 (k + 1) y0 y1 y2 y3 y4)) ∧ (∀ y0 y1 y2 y3 y4, LeO (caponierlaw03_AluBranches.l1 k y0 y1 y2 y3 y4) (caponierlaw03_AluBranches.l1 (k + 1) y0 y1 y2 y3 y4)) ∧ (∀ y0 y1 y2 y3 y4 y5 y6 y7 y8, LeO (caponierlaw03_AluBranches.l2 k y0 y1 y2 y3 y4 y5 y6 y7 y8) (caponierlaw03_AluBranches.l2 (k + 1) y0 y1 y2 y3 y4 y5 y6 y7 y8))
  | 0 => ⟨fun _ _ _ _ _ r h => by simp [caponierlaw03_AluBranches.l0] at h, fun _ _ _ _ _ r h => by simp [caponierlaw03_AluBranches.l1] at h, fun _ _ _ _ _ _ _ _ _ r h => by simp [caponierlaw03_AluBranches.l2] at h⟩
  | k + 1 => by
    obtain ⟨ih0, ih1, ih2⟩ := caponierlaw03_AluBranches.mono_l k
    refine ⟨?_, ?_, ?_⟩
    · intro y0 y1 y2 y3 y4
      unfold caponierlaw03_AluBranches.l0
      repeat' first
      | (with_reducible exact ih0 _ _ _ _ _)
      | (with_reducible exact ih1 _ _ _ _ _)
      | (with_reducible exact ih2 _ _ _ _ _ _ _ _ _)
      | (with_reducible exact LeO.refl _)
      | (with_reducible exact LeO.none _)
      | (with_reducible refine LeO.ite ?_ ?_)
      | (with_reducible refine LeO.bind ?_ (fun _ => ?_))
      | exact ih0 _ _ _ _ _
      | exact ih1 _ _ _ _ _
      | exact ih2 _ _ _ _ _ _ _ _ _
      | exact LeO.none _
      | refine LeO.ite ?_ ?_
      | refine LeO.bind ?_ (fun _ => ?_)
    · intro y0 y1 y2 y3 y4
      unfold caponierlaw03_AluBranches.l1
      repeat' first
      | (with_reducible exact ih0 _ _ _ _ _)
      | (with_reducible exact ih1 _ _ _ _ _)
      | (with_reducible exact ih2 _ _ _ _ _ _ _ _ _)
      | (with_reducible exact LeO.refl _)
      | (with_reducible exact LeO.none _)
      | (with_reducible refine LeO.ite ?_ ?_)
      | (with_reducible refine LeO.bind ?_ (fun _ => ?_))
      | exact ih0 _ _ _ _ _
      | exact ih1 _ _ _ _ _
      | exact ih2 _ _ _ _ _ _ _ _ _
      | exact LeO.none _
      | refine LeO.ite ?_ ?_
      | refine LeO.bind ?_ (fun _ => ?_)
    · intro y0 y1 y2 y3 y4 y5 y6 y7 y8
      unfold caponierlaw03_AluBranches.l2
      repeat' first
      | (with_reducible exact ih0 _ _ _ _ _)
      | (with_reducible exact ih1 _ _ _ _ _)
      | (with_reducible exact ih2 _ _ _ _ _ _ _ _ _)
      | (with_reducible exact LeO.refl _)
      | (with_reducible exact LeO.none _)
      | (with_reducible refine LeO.ite ?_ ?_)
      | (with_reducible refine LeO.bind ?_ (fun _ => ?_))
      | exact ih0 _ _ _ _ _
      | exact ih1 _ _ _ _ _
      | exact ih2 _ _ _ _ _ _ _ _ _
      | exact LeO.none _
      | refine LeO.ite ?_ ?_
      | refine LeO.bind ?_ (fun _ => ?_)
theorem caponierlaw03_AluBranches.mono : ∀ a0 a1 k, LeO (caponierlaw03_AluBranches.f k a0 a1) (caponierlaw03_AluBranches.f (k + 1) a0 a1) := by
  intro a0 a1 k
  obtain ⟨ih0, ih1, ih2⟩ := caponierlaw03_AluBranches.mono_l k
  unfold caponierlaw03_AluBranches.f
  repeat' first
      | (with_reducible exact ih0 _ _ _ _ _)
      | (with_reducible exact ih1 _ _ _ _ _)
      | (with_reducible exact ih2 _ _ _ _ _ _ _ _ _)
      | (with_reducible exact LeO.refl _)
      | (with_reducible exact LeO.none _)
      | (with_reducible refine LeO.ite ?_ ?_)
      | (with_reducible refine LeO.bind ?_ (fun _ => ?_))
      | exact ih0 _ _ _ _ _
      | exact ih1 _ _ _ _ _
      | exact ih2 _ _ _ _ _ _ _ _ _
      | exact LeO.none _
      | refine LeO.ite ?_ ?_
      | refine LeO.bind ?_ (fun _ => ?_)
set_option maxHeartbeats 8000000 in
set_option maxRecDepth 100000 in
theorem caponierlaw03_AluBranches.calls (k : Nat) (a0 : Int) (a1 : Int) (r : Bool) (w : World) (h : caponierlaw03_AluBranches.f k a0 a1 = some r) :
    Calls Try.prog 5 #[.int .u64 a0, .int .u64 a1] w fun e w' => e = .returned (.bool r) ∧ Below w.heap.size w w' := by
  have HB := Aside0.mk (Below.refl w.heap.size w)
  have H : ((caponierlaw03_awake.f).bind fun t115 => (if t115 = true then ((some (([32, 34, 36] : List Int) : List Int)).bind fun y116 => (caponierlaw03_AluBranches.l0 k a0 a1 y116 (y116.length : Int) 0)) else (some false))) = some r := h
  clear h
  replace H := Option.bind_eq_some_iff.mp H
  obtain ⟨t115, A30, H⟩ := H
  replace H : (if t115 = true then ((some (([32, 34, 36] : List Int) : List Int)).bind fun y116 => (caponierlaw03_AluBranches.l0 k a0 a1 y116 (y116.length : Int) 0)) else (some false)) = some r := H
  have A3 := Aside0.mk A30
  clear A30
  by_cases c4 : t115 = true
  · subst c4
    have H1 : ((some (([32, 34, 36] : List Int) : List Int)).bind fun y116 => (caponierlaw03_AluBranches.l0 k a0 a1 y116 (y116.length : Int) 0)) = some r := by rw [if_pos rfl] at H; exact H
    clear H
    have H := H1
    clear H1
    obtain ⟨y116, hy116⟩ : ∃ y_ : List Int, y_ = (([32, 34, 36] : List Int)) := ⟨_, rfl⟩
    replace H : (caponierlaw03_AluBranches.l0 k a0 a1 y116 (y116.length : Int) 0) = some r := by first | (rw [hy116]; with_reducible exact H) | (have H2_ := (Option.bind_some _ _).symm.trans H; rw [hy116]; with_reducible exact H2_) | (have H2_ := (Option.bind_some _ _).symm.trans H; with_reducible exact H2_) | with_reducible exact H | (rw [hy116]; exact H) | exact H
    have Ny116 := Aside0.mk hy116
    clear hy116
    have H' := Aside0.mk H
    clear H
    go_enter Try.func5, Try.ntmps5
    go_wp2_with (first | ((with_reducible refine gate_callee (f := 11) rfl ?_); refine goesL_ (some 22) rfl rfl Try.func11 (by kernel_rfl) rfl #[] rfl (by (try simp only [List.map_toArray, List.map_cons, List.map_nil]); first | done | rfl | (simp only [List.length_drop, List.length_take]; rfl)) ?_; (with_reducible refine (caponierlaw03_awake.calls  true _ A3.out).mono ?_); rintro e w5 ⟨rfl, hb⟩; refine ⟨_, rfl, ?_⟩; have n0_ := Aside0.mk (below_step (by repeat (first | (with_reducible first | exact HB.out | apply below_alloc | apply pw_below_drewN | apply below_drew1) | exact HB.out)) hb); clear HB; have HB := n0_; clear n0_; (try clear hb); (try clear hb2); (try clear hk); (try clear hi)) | ((with_reducible refine gate_dst (N := 24) rfl ?_); refine Kd.R_lit (Kd.int .i64) _ 3 ?hg (N := 24) ?hd (xs := ([32, 34, 36] : List Int)) (inner := [.int .i64 32, .int .i64 34, .int .i64 36]) (ok := fun _ => True) (okp := fun _ => True) ?hr ?hp (fun _ hk => hk) trivial (Below.refl _ _) (Nat.le_refl _) (by simp) ?_; (case hd => rfl); (case hg => rfl); (case hr => first | (go_simp; done) | (go_simp; rfl)); (case hp => exact (Reps.one (show Kd.M (Kd.int .i64) _ _ _ 32 [.int .i64 32] from rfl) (Reps.one (show Kd.M (Kd.int .i64) _ _ _ 34 [.int .i64 34] from rfl) (Reps.one (show Kd.M (Kd.int .i64) _ _ _ 36 [.int .i64 36] from rfl) (Reps.none _ _))))); intro v117 w6 ho7 hb hg_ hnew_; clear hg_ hnew_; (first | rw [← Ny116.out] at ho7 | (simp only [Int.reduceToNat] at ho7; rw [← Ny116.out] at ho7)); have n0_ := Aside0.mk (Kd.R_lower ho7 (below_size (by repeat (first | (with_reducible first | exact HB.out | apply below_alloc | apply pw_below_drewN | apply below_drew1) | exact HB.out)))); have n1_ := Aside0.mk (below_step (by repeat (first | (with_reducible first | exact HB.out | apply below_alloc | apply pw_below_drewN | apply below_drew1) | exact HB.out)) hb); clear HB; have HO118 := n0_; have HB := n1_; clear n0_ n1_; clear hb ho7; obtain ⟨Ao8, co8, eo8⟩ := Kd.R_slice HO118.out; subst eo8))
    go_loopg [26] k (fun kq v26 w' => ∃ (x26_1 : Int), v26 = .int .i64 x26_1 ∧ Aside0 (caponierlaw03_AluBranches.l0 kq a0 a1 y116 (y116.length : Int) x26_1 = some r) ∧ Aside0 (kq ≤ k) ∧ Aside0 (Kd.R (Kd.int .i64) 3 w' w.heap.size (fun _ => True) (.slice Ao8 y116.length co8) y116) ∧ Aside0 (Below w.heap.size w w'))
    case atStart => exact ⟨(0), (by first | rfl | (simp; done) | (simp [*]; done)), H', ⟨Nat.le_refl _⟩, ⟨by (with_reducible repeat (first | apply Kd.R_alloc | apply Kd.R_drewN | apply Kd.R_drew)); exact HO118.out⟩, ⟨by repeat (first | (with_reducible first | exact HB.out | apply below_alloc | apply pw_below_drewN | apply below_drew1) | exact HB.out)⟩⟩
    case round =>
      clear H'
      try clear c1
      try clear p2
      try clear c4
      try clear c5
      obtain ⟨x26_1, rfl, HA, HK1, HO_24, HB⟩ := hrel
      cases gk with
      | zero => exact absurd HA.out (by simp [caponierlaw03_AluBranches.l0])
      | succ k1 =>
        have H := HA.out
        clear HA
        simp only [caponierlaw03_AluBranches.l0] at H
        by_cases c9 : x26_1 < (y116.length : Int)
        · rw [if_pos c9] at H
          have c9b0 : decide (x26_1 < (y116.length : Int)) = true := decide_eq_true c9
          clear c9
          by_cases c10 : 0 ≤ x26_1
          · rw [if_pos c10] at H
            have c10b0 : decide (0 ≤ x26_1) = true := decide_eq_true c10
            clear c10
            by_cases c11 : x26_1 < (y116.length : Int)
            · rw [if_pos c11] at H
              have c11b0 : decide (x26_1 < (y116.length : Int)) = true := decide_eq_true c11
              clear c11
              replace H := Option.bind_eq_some_iff.mp H
              obtain ⟨⟨t120, t121⟩, A120, H⟩ := H
              replace H : ((alu_Taken.f (wrap64 ((rd y116 x26_1) + 1)) a0 a1).bind fun bt122 => (if t121 = true then (if bt122.2 = true then (if (t120 == bt122.1) = true then (some false) else (caponierlaw03_AluBranches.l0 k1 a0 a1 y116 (y116.length : Int) (wrap64 (x26_1 + 1)))) else (some false)) else (some false))) = some r := H
              have A12 := Aside0.mk A120
              clear A120
              replace H := Option.bind_eq_some_iff.mp H
              obtain ⟨⟨t122, t123⟩, A130, H⟩ := H
              replace H : (if t121 = true then (if t123 = true then (if (t120 == t122) = true then (some false) else (caponierlaw03_AluBranches.l0 k1 a0 a1 y116 (y116.length : Int) (wrap64 (x26_1 + 1)))) else (some false)) else (some false)) = some r := H
              have A13 := Aside0.mk A130
              clear A130
              by_cases c14 : t121 = true
              · subst c14
                have H1 : (if t123 = true then (if (t120 == t122) = true then (some false) else (caponierlaw03_AluBranches.l0 k1 a0 a1 y116 (y116.length : Int) (wrap64 (x26_1 + 1)))) else (some false)) = some r := by rw [if_pos rfl] at H; exact H
                clear H
                have H := H1
                clear H1
                by_cases c15 : t123 = true
                · subst c15
                  have H1 : (if (t120 == t122) = true then (some false) else (caponierlaw03_AluBranches.l0 k1 a0 a1 y116 (y116.length : Int) (wrap64 (x26_1 + 1)))) = some r := by rw [if_pos rfl] at H; exact H
                  clear H
                  have H := H1
                  clear H1
                  by_cases c16 : (t120 == t122) = true
                  · rw [if_pos c16] at H
                    have c16b0 : (t120 == t122) = true := c16
                    (try (have c16b1 : decide (t120 = t122) = true := by simpa using c16))
                    (try (have c16b2 : (t120 == t122) = true := by simpa using c16))
                    clear c16
                    obtain rfl := Option.some.inj H
                    have p119 : 0 ≤ (x26_1 : Int) := of_decide_eq_true (by first | (with_reducible assumption) | assumption)
                    have q119 : x26_1 < (y116.length : Int) := of_decide_eq_true (by first | (with_reducible assumption) | assumption)
                    obtain ⟨ad119, e119, hx119_0⟩ := Kd.at_int (Kd.R_reads' HO_24.out).2.2 x26_1 p119 q119
                    cases e119
                    replace p119 := eq_true p119
                    replace q119 := eq_true q119
                    go_wp2_with (first | ((with_reducible refine gate_callee (f := 16) rfl ?_); refine goesL_ (some 34) rfl rfl Try.func16 (by kernel_rfl) rfl #[.int .i64 (rd y116 x26_1), .int .u64 a0, .int .u64 a1] rfl (by (try simp only [List.map_toArray, List.map_cons, List.map_nil]); first | done | rfl | (simp only [List.length_drop, List.length_take]; rfl)) ?_; (with_reducible refine (alu_Taken.calls (rd y116 x26_1) a0 a1 t120 true _ A12.out).mono ?_); rintro e w' ⟨rfl, ⟨nd, rfl⟩⟩; refine ⟨_, rfl, ?_⟩) | ((with_reducible refine gate_callee (f := 16) rfl ?_); refine goesL_ (some 42) rfl rfl Try.func16 (by kernel_rfl) rfl #[.int .i64 (wrap64 ((rd y116 x26_1) + 1)), .int .u64 a0, .int .u64 a1] rfl (by (try simp only [List.map_toArray, List.map_cons, List.map_nil]); first | done | rfl | (simp only [List.length_drop, List.length_take]; rfl)) ?_; (with_reducible refine (alu_Taken.calls (wrap64 ((rd y116 x26_1) + 1)) a0 a1 t122 true _ A13.out).mono ?_); rintro e w' ⟨rfl, ⟨nd, rfl⟩⟩; refine ⟨_, rfl, ?_⟩))
                    go_ret
                    exact ⟨by first | rfl | (simp [errW_none, errW_some] <;> rfl) | (simp [*, errW_none, errW_some] <;> rfl), by repeat (first | (with_reducible first | exact HB.out | apply below_alloc | apply pw_below_drewN | apply below_drew1) | exact HB.out)⟩
                  · rw [if_neg c16] at H
                    have c16b0 : (t120 == t122) = false := by simpa using c16
                    (try (have c16b1 : decide (t120 = t122) = false := by simpa using c16))
                    (try (have c16b2 : (t120 == t122) = false := by simpa using c16))
                    (try (have c16b3 : ¬ (t120 = t122) := by simpa using c16))
                    clear c16
                    have H' := Aside0.mk H
                    clear H
                    have p119 : 0 ≤ (x26_1 : Int) := of_decide_eq_true (by first | (with_reducible assumption) | assumption)
                    have q119 : x26_1 < (y116.length : Int) := of_decide_eq_true (by first | (with_reducible assumption) | assumption)
                    obtain ⟨ad119, e119, hx119_0⟩ := Kd.at_int (Kd.R_reads' HO_24.out).2.2 x26_1 p119 q119
                    cases e119
                    replace p119 := eq_true p119
                    replace q119 := eq_true q119
                    go_wp2_with (first | ((with_reducible refine gate_callee (f := 16) rfl ?_); refine goesL_ (some 34) rfl rfl Try.func16 (by kernel_rfl) rfl #[.int .i64 (rd y116 x26_1), .int .u64 a0, .int .u64 a1] rfl (by (try simp only [List.map_toArray, List.map_cons, List.map_nil]); first | done | rfl | (simp only [List.length_drop, List.length_take]; rfl)) ?_; (with_reducible refine (alu_Taken.calls (rd y116 x26_1) a0 a1 t120 true _ A12.out).mono ?_); rintro e w' ⟨rfl, ⟨nd, rfl⟩⟩; refine ⟨_, rfl, ?_⟩) | ((with_reducible refine gate_callee (f := 16) rfl ?_); refine goesL_ (some 42) rfl rfl Try.func16 (by kernel_rfl) rfl #[.int .i64 (wrap64 ((rd y116 x26_1) + 1)), .int .u64 a0, .int .u64 a1] rfl (by (try simp only [List.map_toArray, List.map_cons, List.map_nil]); first | done | rfl | (simp only [List.length_drop, List.length_take]; rfl)) ?_; (with_reducible refine (alu_Taken.calls (wrap64 ((rd y116 x26_1) + 1)) a0 a1 t122 true _ A13.out).mono ?_); rintro e w' ⟨rfl, ⟨nd, rfl⟩⟩; refine ⟨_, rfl, ?_⟩))
                    go_roundg k1
                    case measure => have := HK1.out; omega
                    case rel => exact ⟨(wrap64 (x26_1 + 1)), (by first | rfl | (simp; done) | (simp [*]; done)), H', ⟨by have := HK1.out; omega⟩, ⟨by (with_reducible repeat (first | apply Kd.R_alloc | apply Kd.R_drewN | apply Kd.R_drew)); exact HO_24.out⟩, ⟨by repeat (first | (with_reducible first | exact HB.out | apply below_alloc | apply pw_below_drewN | apply below_drew1) | exact HB.out)⟩⟩
                · replace c15 := Bool.eq_false_iff.mpr c15
                  subst c15
                  have H1 : (some false) = some r := by rw [if_neg (show ¬ (false = true) by decide)] at H; exact H
                  clear H
                  have H := H1
                  clear H1
                  obtain rfl := Option.some.inj H
                  have p119 : 0 ≤ (x26_1 : Int) := of_decide_eq_true (by first | (with_reducible assumption) | assumption)
                  have q119 : x26_1 < (y116.length : Int) := of_decide_eq_true (by first | (with_reducible assumption) | assumption)
                  obtain ⟨ad119, e119, hx119_0⟩ := Kd.at_int (Kd.R_reads' HO_24.out).2.2 x26_1 p119 q119
                  cases e119
                  replace p119 := eq_true p119
                  replace q119 := eq_true q119
                  go_wp2_with (first | ((with_reducible refine gate_callee (f := 16) rfl ?_); refine goesL_ (some 34) rfl rfl Try.func16 (by kernel_rfl) rfl #[.int .i64 (rd y116 x26_1), .int .u64 a0, .int .u64 a1] rfl (by (try simp only [List.map_toArray, List.map_cons, List.map_nil]); first | done | rfl | (simp only [List.length_drop, List.length_take]; rfl)) ?_; (with_reducible refine (alu_Taken.calls (rd y116 x26_1) a0 a1 t120 true _ A12.out).mono ?_); rintro e w' ⟨rfl, ⟨nd, rfl⟩⟩; refine ⟨_, rfl, ?_⟩) | ((with_reducible refine gate_callee (f := 16) rfl ?_); refine goesL_ (some 42) rfl rfl Try.func16 (by kernel_rfl) rfl #[.int .i64 (wrap64 ((rd y116 x26_1) + 1)), .int .u64 a0, .int .u64 a1] rfl (by (try simp only [List.map_toArray, List.map_cons, List.map_nil]); first | done | rfl | (simp only [List.length_drop, List.length_take]; rfl)) ?_; (with_reducible refine (alu_Taken.calls (wrap64 ((rd y116 x26_1) + 1)) a0 a1 t122 false _ A13.out).mono ?_); rintro e w' ⟨rfl, ⟨nd, rfl⟩⟩; refine ⟨_, rfl, ?_⟩))
                  go_ret
                  exact ⟨by first | rfl | (simp [errW_none, errW_some] <;> rfl) | (simp [*, errW_none, errW_some] <;> rfl), by repeat (first | (with_reducible first | exact HB.out | apply below_alloc | apply pw_below_drewN | apply below_drew1) | exact HB.out)⟩
              · replace c14 := Bool.eq_false_iff.mpr c14
                subst c14
                have H1 : (some false) = some r := by rw [if_neg (show ¬ (false = true) by decide)] at H; exact H
                clear H
                have H := H1
                clear H1
                obtain rfl := Option.some.inj H
                have p119 : 0 ≤ (x26_1 : Int) := of_decide_eq_true (by first | (with_reducible assumption) | assumption)
                have q119 : x26_1 < (y116.length : Int) := of_decide_eq_true (by first | (with_reducible assumption) | assumption)
                obtain ⟨ad119, e119, hx119_0⟩ := Kd.at_int (Kd.R_reads' HO_24.out).2.2 x26_1 p119 q119
                cases e119
                replace p119 := eq_true p119
                replace q119 := eq_true q119
                go_wp2_with (first | ((with_reducible refine gate_callee (f := 16) rfl ?_); refine goesL_ (some 34) rfl rfl Try.func16 (by kernel_rfl) rfl #[.int .i64 (rd y116 x26_1), .int .u64 a0, .int .u64 a1] rfl (by (try simp only [List.map_toArray, List.map_cons, List.map_nil]); first | done | rfl | (simp only [List.length_drop, List.length_take]; rfl)) ?_; (with_reducible refine (alu_Taken.calls (rd y116 x26_1) a0 a1 t120 false _ A12.out).mono ?_); rintro e w' ⟨rfl, ⟨nd, rfl⟩⟩; refine ⟨_, rfl, ?_⟩) | ((with_reducible refine gate_callee (f := 16) rfl ?_); refine goesL_ (some 42) rfl rfl Try.func16 (by kernel_rfl) rfl #[.int .i64 (wrap64 ((rd y116 x26_1) + 1)), .int .u64 a0, .int .u64 a1] rfl (by (try simp only [List.map_toArray, List.map_cons, List.map_nil]); first | done | rfl | (simp only [List.length_drop, List.length_take]; rfl)) ?_; (with_reducible refine (alu_Taken.calls (wrap64 ((rd y116 x26_1) + 1)) a0 a1 t122 t123 _ A13.out).mono ?_); rintro e w' ⟨rfl, ⟨nd, rfl⟩⟩; refine ⟨_, rfl, ?_⟩))
                go_ret
                exact ⟨by first | rfl | (simp [errW_none, errW_some] <;> rfl) | (simp [*, errW_none, errW_some] <;> rfl), by repeat (first | (with_reducible first | exact HB.out | apply below_alloc | apply pw_below_drewN | apply below_drew1) | exact HB.out)⟩
            · rw [if_neg c11] at H
              exact absurd H (by simp)
          · rw [if_neg c10] at H
            exact absurd H (by simp)
        · rw [if_neg c9] at H
          have c9b0 : decide (x26_1 < (y116.length : Int)) = false := decide_eq_false c9
          clear c9
          obtain ⟨y124, hy124⟩ : ∃ y_ : List Int, y_ = (([34, 36] : List Int)) := ⟨_, rfl⟩
          replace H : (caponierlaw03_AluBranches.l1 k1 a0 a1 y124 (y124.length : Int) 0) = some r := by first | (rw [hy124]; with_reducible exact H) | (have H2_ := (Option.bind_some _ _).symm.trans H; rw [hy124]; with_reducible exact H2_) | (have H2_ := (Option.bind_some _ _).symm.trans H; with_reducible exact H2_) | with_reducible exact H | (rw [hy124]; exact H) | exact H
          have Ny124 := Aside0.mk hy124
          clear hy124
          have H' := Aside0.mk H
          clear H
          go_wp2_with (first | ((with_reducible refine gate_dst (N := 57) rfl ?_); refine Kd.R_lit (Kd.int .i64) _ 3 ?hg (N := 57) ?hd (xs := ([34, 36] : List Int)) (inner := [.int .i64 34, .int .i64 36]) (ok := fun _ => True) (okp := fun _ => True) ?hr ?hp (fun _ hk => hk) trivial (Below.refl _ _) (Nat.le_refl _) (by simp) ?_; (case hd => rfl); (case hg => rfl); (case hr => first | (go_simp; done) | (go_simp; rfl)); (case hp => exact (Reps.one (show Kd.M (Kd.int .i64) _ _ _ 34 [.int .i64 34] from rfl) (Reps.one (show Kd.M (Kd.int .i64) _ _ _ 36 [.int .i64 36] from rfl) (Reps.none _ _)))); intro v125 w17 ho18 hb hg_ hnew_; clear hg_ hnew_; (first | rw [← Ny124.out] at ho18 | (simp only [Int.reduceToNat] at ho18; rw [← Ny124.out] at ho18)); have n0_ := Aside0.mk (Kd.R_elder' (by (with_reducible repeat (first | apply Kd.R_alloc | apply Kd.R_drewN | apply Kd.R_drew)); exact HO_24.out) (Kd.R_base ho18) hb); have n1_ := Aside0.mk (Kd.R_lower (Kd.R_new' ho18 (Kd.R_lt (by (with_reducible repeat (first | apply Kd.R_alloc | apply Kd.R_drewN | apply Kd.R_drew)); exact HO_24.out))) (below_size (by repeat (first | (with_reducible first | exact HB.out | apply below_alloc | apply pw_below_drewN | apply below_drew1) | exact HB.out)))); have n2_ := Aside0.mk (below_step (by repeat (first | (with_reducible first | exact HB.out | apply below_alloc | apply pw_below_drewN | apply below_drew1) | exact HB.out)) hb); clear HO_24; clear HB; have HO_24 := n0_; have HO126 := n1_; have HB := n2_; clear n0_ n1_ n2_; clear hb ho18; obtain ⟨Ao19, co19, eo19⟩ := Kd.R_slice HO126.out; subst eo19))
          go_loopg [59] k1 (fun kq v59 w' => ∃ (x59_2 : Int), v59 = .int .i64 x59_2 ∧ Aside0 (caponierlaw03_AluBranches.l1 kq a0 a1 y124 (y124.length : Int) x59_2 = some r) ∧ Aside0 (kq ≤ k1) ∧ Aside0 (Kd.R (Kd.int .i64) 3 w' w.heap.size (fun _ => True) (.slice Ao19 y124.length co19) y124) ∧ Aside0 (Below w.heap.size w w'))
          case atStart => exact ⟨(0), (by first | rfl | (simp; done) | (simp [*]; done)), H', ⟨Nat.le_refl _⟩, ⟨by (with_reducible repeat (first | apply Kd.R_alloc | apply Kd.R_drewN | apply Kd.R_drew)); exact Kd.R_mono HO126.out (fun _ hk => trivial)⟩, ⟨by repeat (first | (with_reducible first | exact HB.out | apply below_alloc | apply pw_below_drewN | apply below_drew1) | exact HB.out)⟩⟩
          case round =>
            clear H'
            try clear c1
            try clear p1
            try clear q1
            try clear hx1
            try clear p2
            try clear c4
            try clear c5
            try clear p6
            try clear c9
            try clear c9b0
            try clear c10
            try clear c10b0
            try clear c11
            try clear c11b0
            try clear p11
            try clear q11
            try clear hx11
            try clear c14
            try clear c15
            try clear c16
            try clear c16b0
            try clear c16b1
            try clear c16b2
            try clear hx119_0
            try clear p119
            try clear p2
            try clear q119
            obtain ⟨x59_2, rfl, HA, HK2, HO_57, HB⟩ := hrel
            cases gk with
            | zero => exact absurd HA.out (by simp [caponierlaw03_AluBranches.l1])
            | succ k2 =>
              have H := HA.out
              clear HA
              simp only [caponierlaw03_AluBranches.l1] at H
              by_cases c20 : x59_2 < (y124.length : Int)
              · rw [if_pos c20] at H
                have c20b0 : decide (x59_2 < (y124.length : Int)) = true := decide_eq_true c20
                clear c20
                by_cases c21 : 0 ≤ x59_2
                · rw [if_pos c21] at H
                  have c21b0 : decide (0 ≤ x59_2) = true := decide_eq_true c21
                  clear c21
                  by_cases c22 : x59_2 < (y124.length : Int)
                  · rw [if_pos c22] at H
                    have c22b0 : decide (x59_2 < (y124.length : Int)) = true := decide_eq_true c22
                    clear c22
                    replace H := Option.bind_eq_some_iff.mp H
                    obtain ⟨⟨t128, t129⟩, A230, H⟩ := H
                    replace H : ((alu_Taken.f (rd y124 x59_2) a1 a0).bind fun bt130 => ((alu_Taken.f 32 a0 a1).bind fun bt132 => ((some (([t128, bt130.1, bt132.1] : List Bool) : List Bool)).bind fun y134 => (caponierlaw03_AluBranches.l2 k2 a0 a1 0 y124 (y124.length : Int) x59_2 y134 (y134.length : Int) 0)))) = some r := H
                    have A23 := Aside0.mk A230
                    clear A230
                    replace H := Option.bind_eq_some_iff.mp H
                    obtain ⟨⟨t130, t131⟩, A240, H⟩ := H
                    replace H : ((alu_Taken.f 32 a0 a1).bind fun bt132 => ((some (([t128, t130, bt132.1] : List Bool) : List Bool)).bind fun y134 => (caponierlaw03_AluBranches.l2 k2 a0 a1 0 y124 (y124.length : Int) x59_2 y134 (y134.length : Int) 0))) = some r := H
                    have A24 := Aside0.mk A240
                    clear A240
                    replace H := Option.bind_eq_some_iff.mp H
                    obtain ⟨⟨t132, t133⟩, A250, H⟩ := H
                    replace H : ((some (([t128, t130, t132] : List Bool) : List Bool)).bind fun y134 => (caponierlaw03_AluBranches.l2 k2 a0 a1 0 y124 (y124.length : Int) x59_2 y134 (y134.length : Int) 0)) = some r := H
                    have A25 := Aside0.mk A250
                    clear A250
                    obtain ⟨y134, hy134⟩ : ∃ y_ : List Bool, y_ = (([t128, t130, t132] : List Bool)) := ⟨_, rfl⟩
                    replace H : (caponierlaw03_AluBranches.l2 k2 a0 a1 0 y124 (y124.length : Int) x59_2 y134 (y134.length : Int) 0) = some r := by first | (rw [hy134]; with_reducible exact H) | (have H2_ := (Option.bind_some _ _).symm.trans H; rw [hy134]; with_reducible exact H2_) | (have H2_ := (Option.bind_some _ _).symm.trans H; with_reducible exact H2_) | with_reducible exact H | (rw [hy134]; exact H) | exact H
                    have Ny134 := Aside0.mk hy134
                    clear hy134
                    have H' := Aside0.mk H
                    clear H
                    have p127 : 0 ≤ (x59_2 : Int) := of_decide_eq_true (by first | (with_reducible assumption) | assumption)
                    have q127 : x59_2 < (y124.length : Int) := of_decide_eq_true (by first | (with_reducible assumption) | assumption)
                    obtain ⟨ad127, e127, hx127_0⟩ := Kd.at_int (Kd.R_reads' HO_57.out).2.2 x59_2 p127 q127
                    cases e127
                    replace p127 := eq_true p127
                    replace q127 := eq_true q127
                    go_wp2_with (first | ((with_reducible refine gate_callee (f := 16) rfl ?_); refine goesL_ (some 67) rfl rfl Try.func16 (by kernel_rfl) rfl #[.int .i64 (rd y124 x59_2), .int .u64 a0, .int .u64 a1] rfl (by (try simp only [List.map_toArray, List.map_cons, List.map_nil]); first | done | rfl | (simp only [List.length_drop, List.length_take]; rfl)) ?_; (with_reducible refine (alu_Taken.calls (rd y124 x59_2) a0 a1 t128 t129 _ A23.out).mono ?_); rintro e w' ⟨rfl, ⟨nd, rfl⟩⟩; refine ⟨_, rfl, ?_⟩) | ((with_reducible refine gate_callee (f := 16) rfl ?_); refine goesL_ (some 74) rfl rfl Try.func16 (by kernel_rfl) rfl #[.int .i64 (rd y124 x59_2), .int .u64 a1, .int .u64 a0] rfl (by (try simp only [List.map_toArray, List.map_cons, List.map_nil]); first | done | rfl | (simp only [List.length_drop, List.length_take]; rfl)) ?_; (with_reducible refine (alu_Taken.calls (rd y124 x59_2) a1 a0 t130 t131 _ A24.out).mono ?_); rintro e w' ⟨rfl, ⟨nd, rfl⟩⟩; refine ⟨_, rfl, ?_⟩) | ((with_reducible refine gate_callee (f := 16) rfl ?_); refine goesL_ (some 80) rfl rfl Try.func16 (by kernel_rfl) rfl #[.int .i64 32, .int .u64 a0, .int .u64 a1] rfl (by (try simp only [List.map_toArray, List.map_cons, List.map_nil]); first | done | rfl | (simp only [List.length_drop, List.length_take]; rfl)) ?_; (with_reducible refine (alu_Taken.calls 32 a0 a1 t132 t133 _ A25.out).mono ?_); rintro e w' ⟨rfl, ⟨nd, rfl⟩⟩; refine ⟨_, rfl, ?_⟩) | ((with_reducible refine gate_dst (N := 86) rfl ?_); refine Kd.R_lit Kd.bool _ 4 ?hg (N := 86) ?hd (xs := ([t128, t130, t132] : List Bool)) (inner := [.bool t128, .bool t130, .bool t132]) (ok := fun _ => True) (okp := fun _ => True) ?hr ?hp (fun _ hk => hk) trivial (Below.refl _ _) (Nat.le_refl _) (by simp) ?_; (case hd => rfl); (case hg => rfl); (case hr => first | (go_simp; done) | (go_simp; rfl)); (case hp => exact (Reps.one (show Kd.M Kd.bool _ _ _ t128 [.bool t128] from rfl) (Reps.one (show Kd.M Kd.bool _ _ _ t130 [.bool t130] from rfl) (Reps.one (show Kd.M Kd.bool _ _ _ t132 [.bool t132] from rfl) (Reps.none _ _))))); intro v135 w26 ho27 hb hg_ hnew_; clear hg_ hnew_; (first | rw [← Ny134.out] at ho27 | (simp only [Int.reduceToNat] at ho27; rw [← Ny134.out] at ho27)); have n0_ := Aside0.mk (Kd.R_below (by (with_reducible repeat (first | apply Kd.R_alloc | apply Kd.R_drewN | apply Kd.R_drew)); exact HO_57.out) hb); have n1_ := Aside0.mk (Kd.R_lower ho27 (below_size (by repeat (first | (with_reducible first | exact HB.out | apply below_alloc | apply pw_below_drewN | apply below_drew1) | exact HB.out)))); have n2_ := Aside0.mk (below_step (by repeat (first | (with_reducible first | exact HB.out | apply below_alloc | apply pw_below_drewN | apply below_drew1) | exact HB.out)) hb); clear HO_57; clear HB; have HO_57 := n0_; have HO136 := n1_; have HB := n2_; clear n0_ n1_ n2_; clear hb ho27; obtain ⟨Ao28, co28, eo28⟩ := Kd.R_slice HO136.out; subst eo28))
                    go_loopg [19, 88] k2 (fun kq v19 v88 w' => ∃ (x19_3 : Int) (x88_3 : Int), v19 = .int .i64 x19_3 ∧ v88 = .int .i64 x88_3 ∧ Aside0 (caponierlaw03_AluBranches.l2 kq a0 a1 x19_3 y124 (y124.length : Int) x59_2 y134 (y134.length : Int) x88_3 = some r) ∧ Aside0 (kq ≤ k2) ∧ Aside0 (Kd.R (Kd.int .i64) 3 w' w.heap.size (fun _ => True) (.slice (some ad127) y124.length co19) y124) ∧ Aside0 (Kd.R Kd.bool 4 w' w.heap.size (fun _ => True) (.slice Ao28 y134.length co28) y134) ∧ Aside0 (Below w.heap.size w w'))
                    case atStart => exact ⟨(0), (0), (by first | rfl | (simp; done) | (simp [*]; done)), (by first | rfl | (simp; done) | (simp [*]; done)), H', ⟨Nat.le_refl _⟩, ⟨by (with_reducible repeat (first | apply Kd.R_alloc | apply Kd.R_drewN | apply Kd.R_drew)); exact HO_57.out⟩, ⟨by (with_reducible repeat (first | apply Kd.R_alloc | apply Kd.R_drewN | apply Kd.R_drew)); exact HO136.out⟩, ⟨by repeat (first | (with_reducible first | exact HB.out | apply below_alloc | apply pw_below_drewN | apply below_drew1) | exact HB.out)⟩⟩
                    case round =>
                      clear H'
                      try clear c1
                      try clear p1
                      try clear q1
                      try clear hx1
                      try clear c2
                      try clear p2
                      try clear c4
                      try clear c5
                      try clear p6
                      try clear c9
                      try clear c9b0
                      try clear c10
                      try clear c10b0
                      try clear c11
                      try clear c11b0
                      try clear p11
                      try clear q11
                      try clear hx11
                      try clear p12
                      try clear q12
                      try clear hx12
                      try clear c14
                      try clear c15
                      try clear c16
                      try clear c16b0
                      try clear c16b1
                      try clear c16b2
                      try clear c20
                      try clear c20b0
                      try clear c21
                      try clear c21b0
                      try clear c22
                      try clear c22b0
                      try clear hx119_0
                      try clear hx127_0
                      try clear p1
                      try clear p11
                      try clear p119
                      try clear p127
                      try clear p2
                      try clear p6
                      try clear q1
                      try clear q11
                      try clear q119
                      try clear q127
                      obtain ⟨x19_3, x88_3, rfl, rfl, HA, HK3, HO_57, HO_86, HB⟩ := hrel
                      cases gk with
                      | zero => exact absurd HA.out (by simp [caponierlaw03_AluBranches.l2])
                      | succ k3 =>
                        have H := HA.out
                        clear HA
                        simp only [caponierlaw03_AluBranches.l2] at H
                        by_cases c29 : x88_3 < (y134.length : Int)
                        · rw [if_pos c29] at H
                          have c29b0 : decide (x88_3 < (y134.length : Int)) = true := decide_eq_true c29
                          clear c29
                          by_cases c30 : 0 ≤ x88_3
                          · rw [if_pos c30] at H
                            have c30b0 : decide (0 ≤ x88_3) = true := decide_eq_true c30
                            clear c30
                            by_cases c31 : x88_3 < (y134.length : Int)
                            · rw [if_pos c31] at H
                              have c31b0 : decide (x88_3 < (y134.length : Int)) = true := decide_eq_true c31
                              clear c31
                              obtain ⟨bq32, hbq32⟩ : ∃ b_ : Bool, b_ = (rdOf false y134 x88_3) := ⟨_, rfl⟩
                              replace H : (if bq32 = true then (caponierlaw03_AluBranches.l2 k3 a0 a1 (wrap64 (x19_3 + 1)) y124 (y124.length : Int) x59_2 y134 (y134.length : Int) (wrap64 (x88_3 + 1))) else (caponierlaw03_AluBranches.l2 k3 a0 a1 x19_3 y124 (y124.length : Int) x59_2 y134 (y134.length : Int) (wrap64 (x88_3 + 1)))) = some r := by rw [← hbq32] at H; exact H
                              have Nbq32 := Aside0.mk hbq32
                              clear hbq32
                              by_cases c33 : bq32 = true
                              · subst c33
                                have H1 : (caponierlaw03_AluBranches.l2 k3 a0 a1 (wrap64 (x19_3 + 1)) y124 (y124.length : Int) x59_2 y134 (y134.length : Int) (wrap64 (x88_3 + 1))) = some r := by rw [if_pos rfl] at H; exact H
                                clear H
                                have H := H1
                                clear H1
                                have H' := Aside0.mk H
                                clear H
                                have p137 : 0 ≤ (x88_3 : Int) := of_decide_eq_true (by first | (with_reducible assumption) | assumption)
                                have q137 : x88_3 < (y134.length : Int) := of_decide_eq_true (by first | (with_reducible assumption) | assumption)
                                obtain ⟨ad137, e137, hx137_0⟩ := Kd.at_bool (Kd.R_reads' HO_86.out).2.2 x88_3 p137 q137
                                (try rw [← Nbq32.out] at hx137_0)
                                cases e137
                                replace p137 := eq_true p137
                                replace q137 := eq_true q137
                                go_wp2
                                go_roundg k3
                                case measure => have := HK1.out; have := HK2.out; have := HK3.out; omega
                                case rel => exact ⟨(wrap64 (x19_3 + 1)), (wrap64 (x88_3 + 1)), (by first | rfl | (simp; done) | (simp [*]; done)), (by first | rfl | (simp; done) | (simp [*]; done)), H', ⟨by have := HK1.out; have := HK2.out; have := HK3.out; omega⟩, ⟨by (with_reducible repeat (first | apply Kd.R_alloc | apply Kd.R_drewN | apply Kd.R_drew)); exact HO_57.out⟩, ⟨by (with_reducible repeat (first | apply Kd.R_alloc | apply Kd.R_drewN | apply Kd.R_drew)); exact HO_86.out⟩, ⟨by repeat (first | (with_reducible first | exact HB.out | apply below_alloc | apply pw_below_drewN | apply below_drew1) | exact HB.out)⟩⟩
                              · replace c33 := Bool.eq_false_iff.mpr c33
                                subst c33
                                have H1 : (caponierlaw03_AluBranches.l2 k3 a0 a1 x19_3 y124 (y124.length : Int) x59_2 y134 (y134.length : Int) (wrap64 (x88_3 + 1))) = some r := by rw [if_neg (show ¬ (false = true) by decide)] at H; exact H
                                clear H
                                have H := H1
                                clear H1
                                have H' := Aside0.mk H
                                clear H
                                have p137 : 0 ≤ (x88_3 : Int) := of_decide_eq_true (by first | (with_reducible assumption) | assumption)
                                have q137 : x88_3 < (y134.length : Int) := of_decide_eq_true (by first | (with_reducible assumption) | assumption)
                                obtain ⟨ad137, e137, hx137_0⟩ := Kd.at_bool (Kd.R_reads' HO_86.out).2.2 x88_3 p137 q137
                                (try rw [← Nbq32.out] at hx137_0)
                                cases e137
                                replace p137 := eq_true p137
                                replace q137 := eq_true q137
                                go_wp2
                                go_roundg k3
                                case measure => have := HK1.out; have := HK2.out; have := HK3.out; omega
                                case rel => exact ⟨(x19_3), (wrap64 (x88_3 + 1)), (by first | rfl | (simp; done) | (simp [*]; done)), (by first | rfl | (simp; done) | (simp [*]; done)), H', ⟨by have := HK1.out; have := HK2.out; have := HK3.out; omega⟩, ⟨by (with_reducible repeat (first | apply Kd.R_alloc | apply Kd.R_drewN | apply Kd.R_drew)); exact HO_57.out⟩, ⟨by (with_reducible repeat (first | apply Kd.R_alloc | apply Kd.R_drewN | apply Kd.R_drew)); exact HO_86.out⟩, ⟨by repeat (first | (with_reducible first | exact HB.out | apply below_alloc | apply pw_below_drewN | apply below_drew1) | exact HB.out)⟩⟩
                            · rw [if_neg c31] at H
                              exact absurd H (by simp)
                          · rw [if_neg c30] at H
                            exact absurd H (by simp)
                        · rw [if_neg c29] at H
                          have c29b0 : decide (x88_3 < (y134.length : Int)) = false := decide_eq_false c29
                          clear c29
                          by_cases c34 : x19_3 = 1
                          · rw [if_pos c34] at H
                            have c34b0 : (x19_3 == 1) = true := beq_iff_eq.mpr c34
                            have c34b1 : (x19_3 != 1) = false := bne_eq_false_iff_eq.mpr c34
                            clear c34
                            have H' := Aside0.mk H
                            clear H
                            go_wp2
                            go_roundg k3
                            case measure => have := HK1.out; have := HK2.out; have := HK3.out; omega
                            case rel => exact ⟨(wrap64 (x59_2 + 1)), (by first | rfl | (simp; done) | (simp [*]; done)), H', ⟨by have := HK1.out; have := HK2.out; have := HK3.out; omega⟩, ⟨by (with_reducible repeat (first | apply Kd.R_alloc | apply Kd.R_drewN | apply Kd.R_drew)); exact HO_57.out⟩, ⟨by repeat (first | (with_reducible first | exact HB.out | apply below_alloc | apply pw_below_drewN | apply below_drew1) | exact HB.out)⟩⟩
                          · rw [if_neg c34] at H
                            have c34b0 : (x19_3 == 1) = false := beq_eq_false_iff_ne.mpr c34
                            have c34b1 : (x19_3 != 1) = true := bne_iff_ne.mpr c34
                            obtain rfl := Option.some.inj H
                            go_wp2
                            go_ret
                            exact ⟨by first | rfl | (simp [errW_none, errW_some] <;> rfl) | (simp [*, errW_none, errW_some] <;> rfl), by repeat (first | (with_reducible first | exact HB.out | apply below_alloc | apply pw_below_drewN | apply below_drew1) | exact HB.out)⟩
                  · rw [if_neg c22] at H
                    exact absurd H (by simp)
                · rw [if_neg c21] at H
                  exact absurd H (by simp)
              · rw [if_neg c20] at H
                have c20b0 : decide (x59_2 < (y124.length : Int)) = false := decide_eq_false c20
                clear c20
                obtain rfl := Option.some.inj H
                go_wp2
                go_ret
                exact ⟨by first | rfl | (simp [errW_none, errW_some] <;> rfl) | (simp [*, errW_none, errW_some] <;> rfl), by repeat (first | (with_reducible first | exact HB.out | apply below_alloc | apply pw_below_drewN | apply below_drew1) | exact HB.out)⟩
  · replace c4 := Bool.eq_false_iff.mpr c4
    subst c4
    have H1 : (some false) = some r := by rw [if_neg (show ¬ (false = true) by decide)] at H; exact H
    clear H
    have H := H1
    clear H1
    obtain rfl := Option.some.inj H
    go_enter Try.func5, Try.ntmps5
    go_wp2_with (first | ((with_reducible refine gate_callee (f := 11) rfl ?_); refine goesL_ (some 22) rfl rfl Try.func11 (by kernel_rfl) rfl #[] rfl (by (try simp only [List.map_toArray, List.map_cons, List.map_nil]); first | done | rfl | (simp only [List.length_drop, List.length_take]; rfl)) ?_; (with_reducible refine (caponierlaw03_awake.calls  false _ A3.out).mono ?_); rintro e w35 ⟨rfl, hb⟩; refine ⟨_, rfl, ?_⟩; have n0_ := Aside0.mk (below_step (by repeat (first | (with_reducible first | exact HB.out | apply below_alloc | apply pw_below_drewN | apply below_drew1) | exact HB.out)) hb); clear HB; have HB := n0_; clear n0_; (try clear hb); (try clear hb2); (try clear hk); (try clear hi)))
    go_ret
    exact ⟨by first | rfl | (simp [errW_none, errW_some] <;> rfl) | (simp [*, errW_none, errW_some] <;> rfl), by repeat (first | (with_reducible first | exact HB.out | apply below_alloc | apply pw_below_drewN | apply below_drew1) | exact HB.out)⟩

/-- THE ONE PURE STATEMENT of caponierlaw03_AluBranches: yours. -/
def caponierlaw03_AluBranches.Pure : Prop := ∀ (a0 : Int) (a1 : Int), (Lit.int .u64 a0).wf = true → (Lit.int .u64 a1).wf = true → ∃ k, caponierlaw03_AluBranches.f k a0 a1 = some true
theorem caponierlaw03_AluBranches.walk (P : caponierlaw03_AluBranches.Pure) (a0 : Int) (a1 : Int) (w : World) (w0 : (Lit.int .u64 a0).wf = true) (w1 : (Lit.int .u64 a1).wf = true) :
    Calls Try.prog 5 #[.int .u64 a0, .int .u64 a1] w fun e w' => e = .returned (.bool true) ∧ Below w.heap.size w w' := by
  obtain ⟨k, h⟩ := P a0 a1 w0 w1
  refine (caponierlaw03_AluBranches.calls k a0 a1 true w h).mono ?_
  rintro e w' ⟨rfl, hd⟩
  exact ⟨rfl, hd⟩

end Go.Proofs.Ytcjcbnhncfohmaa.QAluBranches
