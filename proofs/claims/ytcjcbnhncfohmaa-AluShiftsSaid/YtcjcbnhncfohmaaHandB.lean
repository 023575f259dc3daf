/- What the functions of package alu that hold a table of functions, or a map, come to, for every word: contracts, walked. -/
import Derived.Test.YtcjcbnhncfohmaaProg
import Derived.Test.YtcjcbnhncfohmaaHandA
import Derived.Test.YtcjcbnhncfohmaaWWords
import Derived.Test.YtcjcbnhncfohmaaWMore
import Derived.Test.YtcjcbnhncfohmaaWLast
import Derived.WalkKit
import Derived.Outline
import Derived.Laws.EntriesVeiled
import Derived.WalkLawsBesides
import Derived.WalkSpells
import Derived.Maps.OwnSet
import Derived.Lib.Mul64
import Derived.Laws.Bits64b
set_option linter.unusedVariables false
set_option linter.unusedSimpArgs false
namespace Go.Proofs.Ytcjcbnhncfohmaa.Hand
open Go Go.RowKit Go.Proofs Go.Proofs.YtcjcbnhncfohmaaW.PrintWords Go.Proofs.Ytcjcbnhncfohmaa.Bv Go.Maps

/-! ### 4. The table, and Two -/
abbrev fn_ (n : Nat) : Value := .func (.func n) #[] #[]
theorem table_is (w : World) : Calls Try.prog 19 #[] w fun e w' => e = .returned (.agg #[fn_ 26, fn_ 27, fn_ 28, fn_ 29, fn_ 31, fn_ 32, fn_ 33, fn_ 34, fn_ 35, fn_ 36, fn_ 37, fn_ 38, fn_ 40, fn_ 42, fn_ 43, fn_ 45]) ∧ Below w.heap.size w w' := by
  go_enter Try.func19, Try.ntmps19
  go_wp2
  refine bodyPost_ret (v := .agg #[fn_ 26, fn_ 27, fn_ 28, fn_ 29, fn_ 31, fn_ 32, fn_ 33, fn_ 34, fn_ 35, fn_ 36, fn_ 37, fn_ 38, fn_ 40, fn_ 42, fn_ 43, fn_ 45]) (by simp [results, Try.results19, go_sem]) rfl ⟨rfl, ?_⟩
  exact (Below.refl _ _).alloc (Nat.le_refl _) _
set_option maxRecDepth 100000 in
theorem two_0 (x y : BitVec 64) (w : World) : Calls Try.prog 12 #[.int .i64 0, .int .u64 (U x), .int .u64 (U y)] w fun e w' => e = .returned (.tuple #[.int .u64 (U (twoW 0 x y)), .bool true]) ∧ Below w.heap.size w w' := by
  have hi : ∀ w, (Instr.index 39 (.agg #[fn_ 26, fn_ 27, fn_ 28, fn_ 29, fn_ 31, fn_ 32, fn_ 33, fn_ 34, fn_ 35, fn_ 36, fn_ 37, fn_ 38, fn_ 40, fn_ 42, fn_ 43, fn_ 45]) (.int .i64 0)).run Try.prog w = .ok (fn_ 26) w := fun _ => by kernel_rfl
  have hc : ∀ w, Calls Try.prog 26 #[.int .u64 (U x), .int .u64 (U y)] w fun e w' => e = .returned (.int .u64 (U (twoW 0 x y))) ∧ w' = w := fun w => c26 x y w
  obtain ⟨D, hD⟩ : ∃ D, U (twoW 0 x y) = D := ⟨_, rfl⟩
  rw [hD] at hc ⊢
  clear hD
  go_enter Try.func12, Try.ntmps12
  go_wp2_with (first | (go_at_call 19; refine (table_is _).mono ?_; rintro e w' ⟨rfl, hb⟩) | (go_at_call 26; refine (hc _).mono ?_; rintro e w'' ⟨rfl, rfl⟩))
  go_ret2
  exact ⟨rfl, hb⟩
set_option maxRecDepth 100000 in
theorem two_1 (x y : BitVec 64) (w : World) : Calls Try.prog 12 #[.int .i64 1, .int .u64 (U x), .int .u64 (U y)] w fun e w' => e = .returned (.tuple #[.int .u64 (U (twoW 1 x y)), .bool true]) ∧ Below w.heap.size w w' := by
  have hi : ∀ w, (Instr.index 39 (.agg #[fn_ 26, fn_ 27, fn_ 28, fn_ 29, fn_ 31, fn_ 32, fn_ 33, fn_ 34, fn_ 35, fn_ 36, fn_ 37, fn_ 38, fn_ 40, fn_ 42, fn_ 43, fn_ 45]) (.int .i64 1)).run Try.prog w = .ok (fn_ 27) w := fun _ => by kernel_rfl
  have hc : ∀ w, Calls Try.prog 27 #[.int .u64 (U x), .int .u64 (U y)] w fun e w' => e = .returned (.int .u64 (U (twoW 1 x y))) ∧ w' = w := fun w => c27 x y w
  obtain ⟨D, hD⟩ : ∃ D, U (twoW 1 x y) = D := ⟨_, rfl⟩
  rw [hD] at hc ⊢
  clear hD
  go_enter Try.func12, Try.ntmps12
  go_wp2_with (first | (go_at_call 19; refine (table_is _).mono ?_; rintro e w' ⟨rfl, hb⟩) | (go_at_call 27; refine (hc _).mono ?_; rintro e w'' ⟨rfl, rfl⟩))
  go_ret2
  exact ⟨rfl, hb⟩
set_option maxRecDepth 100000 in
theorem two_2 (x y : BitVec 64) (w : World) : Calls Try.prog 12 #[.int .i64 2, .int .u64 (U x), .int .u64 (U y)] w fun e w' => e = .returned (.tuple #[.int .u64 (U (twoW 2 x y)), .bool true]) ∧ Below w.heap.size w w' := by
  have hi : ∀ w, (Instr.index 39 (.agg #[fn_ 26, fn_ 27, fn_ 28, fn_ 29, fn_ 31, fn_ 32, fn_ 33, fn_ 34, fn_ 35, fn_ 36, fn_ 37, fn_ 38, fn_ 40, fn_ 42, fn_ 43, fn_ 45]) (.int .i64 2)).run Try.prog w = .ok (fn_ 28) w := fun _ => by kernel_rfl
  have hc : ∀ w, Calls Try.prog 28 #[.int .u64 (U x), .int .u64 (U y)] w fun e w' => e = .returned (.int .u64 (U (twoW 2 x y))) ∧ w' = w := fun w => c28 x y w
  obtain ⟨D, hD⟩ : ∃ D, U (twoW 2 x y) = D := ⟨_, rfl⟩
  rw [hD] at hc ⊢
  clear hD
  go_enter Try.func12, Try.ntmps12
  go_wp2_with (first | (go_at_call 19; refine (table_is _).mono ?_; rintro e w' ⟨rfl, hb⟩) | (go_at_call 28; refine (hc _).mono ?_; rintro e w'' ⟨rfl, rfl⟩))
  go_ret2
  exact ⟨rfl, hb⟩
set_option maxRecDepth 100000 in
theorem two_3 (x y : BitVec 64) (w : World) : Calls Try.prog 12 #[.int .i64 3, .int .u64 (U x), .int .u64 (U y)] w fun e w' => e = .returned (.tuple #[.int .u64 (U (twoW 3 x y)), .bool true]) ∧ Below w.heap.size w w' := by
  have hi : ∀ w, (Instr.index 39 (.agg #[fn_ 26, fn_ 27, fn_ 28, fn_ 29, fn_ 31, fn_ 32, fn_ 33, fn_ 34, fn_ 35, fn_ 36, fn_ 37, fn_ 38, fn_ 40, fn_ 42, fn_ 43, fn_ 45]) (.int .i64 3)).run Try.prog w = .ok (fn_ 29) w := fun _ => by kernel_rfl
  have hc : ∀ w, Calls Try.prog 29 #[.int .u64 (U x), .int .u64 (U y)] w fun e w' => e = .returned (.int .u64 (U (twoW 3 x y))) ∧ w' = w := fun w => c29 x y w
  obtain ⟨D, hD⟩ : ∃ D, U (twoW 3 x y) = D := ⟨_, rfl⟩
  rw [hD] at hc ⊢
  clear hD
  go_enter Try.func12, Try.ntmps12
  go_wp2_with (first | (go_at_call 19; refine (table_is _).mono ?_; rintro e w' ⟨rfl, hb⟩) | (go_at_call 29; refine (hc _).mono ?_; rintro e w'' ⟨rfl, rfl⟩))
  go_ret2
  exact ⟨rfl, hb⟩
set_option maxRecDepth 100000 in
theorem two_4 (x y : BitVec 64) (w : World) : Calls Try.prog 12 #[.int .i64 4, .int .u64 (U x), .int .u64 (U y)] w fun e w' => e = .returned (.tuple #[.int .u64 (U (twoW 4 x y)), .bool true]) ∧ Below w.heap.size w w' := by
  have hi : ∀ w, (Instr.index 39 (.agg #[fn_ 26, fn_ 27, fn_ 28, fn_ 29, fn_ 31, fn_ 32, fn_ 33, fn_ 34, fn_ 35, fn_ 36, fn_ 37, fn_ 38, fn_ 40, fn_ 42, fn_ 43, fn_ 45]) (.int .i64 4)).run Try.prog w = .ok (fn_ 31) w := fun _ => by kernel_rfl
  have hc : ∀ w, Calls Try.prog 31 #[.int .u64 (U x), .int .u64 (U y)] w fun e w' => e = .returned (.int .u64 (U (twoW 4 x y))) ∧ w' = w := fun w => c31 x y w
  obtain ⟨D, hD⟩ : ∃ D, U (twoW 4 x y) = D := ⟨_, rfl⟩
  rw [hD] at hc ⊢
  clear hD
  go_enter Try.func12, Try.ntmps12
  go_wp2_with (first | (go_at_call 19; refine (table_is _).mono ?_; rintro e w' ⟨rfl, hb⟩) | (go_at_call 31; refine (hc _).mono ?_; rintro e w'' ⟨rfl, rfl⟩))
  go_ret2
  exact ⟨rfl, hb⟩
set_option maxRecDepth 100000 in
theorem two_5 (x y : BitVec 64) (w : World) : Calls Try.prog 12 #[.int .i64 5, .int .u64 (U x), .int .u64 (U y)] w fun e w' => e = .returned (.tuple #[.int .u64 (U (twoW 5 x y)), .bool true]) ∧ Below w.heap.size w w' := by
  have hi : ∀ w, (Instr.index 39 (.agg #[fn_ 26, fn_ 27, fn_ 28, fn_ 29, fn_ 31, fn_ 32, fn_ 33, fn_ 34, fn_ 35, fn_ 36, fn_ 37, fn_ 38, fn_ 40, fn_ 42, fn_ 43, fn_ 45]) (.int .i64 5)).run Try.prog w = .ok (fn_ 32) w := fun _ => by kernel_rfl
  have hc : ∀ w, Calls Try.prog 32 #[.int .u64 (U x), .int .u64 (U y)] w fun e w' => e = .returned (.int .u64 (U (twoW 5 x y))) ∧ w' = w := fun w => c32 x y w
  obtain ⟨D, hD⟩ : ∃ D, U (twoW 5 x y) = D := ⟨_, rfl⟩
  rw [hD] at hc ⊢
  clear hD
  go_enter Try.func12, Try.ntmps12
  go_wp2_with (first | (go_at_call 19; refine (table_is _).mono ?_; rintro e w' ⟨rfl, hb⟩) | (go_at_call 32; refine (hc _).mono ?_; rintro e w'' ⟨rfl, rfl⟩))
  go_ret2
  exact ⟨rfl, hb⟩
set_option maxRecDepth 100000 in
theorem two_6 (x y : BitVec 64) (w : World) : Calls Try.prog 12 #[.int .i64 6, .int .u64 (U x), .int .u64 (U y)] w fun e w' => e = .returned (.tuple #[.int .u64 (U (twoW 6 x y)), .bool true]) ∧ Below w.heap.size w w' := by
  have hi : ∀ w, (Instr.index 39 (.agg #[fn_ 26, fn_ 27, fn_ 28, fn_ 29, fn_ 31, fn_ 32, fn_ 33, fn_ 34, fn_ 35, fn_ 36, fn_ 37, fn_ 38, fn_ 40, fn_ 42, fn_ 43, fn_ 45]) (.int .i64 6)).run Try.prog w = .ok (fn_ 33) w := fun _ => by kernel_rfl
  have hc : ∀ w, Calls Try.prog 33 #[.int .u64 (U x), .int .u64 (U y)] w fun e w' => e = .returned (.int .u64 (U (twoW 6 x y))) ∧ w' = w := fun w => c33 x y w
  obtain ⟨D, hD⟩ : ∃ D, U (twoW 6 x y) = D := ⟨_, rfl⟩
  rw [hD] at hc ⊢
  clear hD
  go_enter Try.func12, Try.ntmps12
  go_wp2_with (first | (go_at_call 19; refine (table_is _).mono ?_; rintro e w' ⟨rfl, hb⟩) | (go_at_call 33; refine (hc _).mono ?_; rintro e w'' ⟨rfl, rfl⟩))
  go_ret2
  exact ⟨rfl, hb⟩
set_option maxRecDepth 100000 in
theorem two_7 (x y : BitVec 64) (w : World) : Calls Try.prog 12 #[.int .i64 7, .int .u64 (U x), .int .u64 (U y)] w fun e w' => e = .returned (.tuple #[.int .u64 (U (twoW 7 x y)), .bool true]) ∧ Below w.heap.size w w' := by
  have hi : ∀ w, (Instr.index 39 (.agg #[fn_ 26, fn_ 27, fn_ 28, fn_ 29, fn_ 31, fn_ 32, fn_ 33, fn_ 34, fn_ 35, fn_ 36, fn_ 37, fn_ 38, fn_ 40, fn_ 42, fn_ 43, fn_ 45]) (.int .i64 7)).run Try.prog w = .ok (fn_ 34) w := fun _ => by kernel_rfl
  have hc : ∀ w, Calls Try.prog 34 #[.int .u64 (U x), .int .u64 (U y)] w fun e w' => e = .returned (.int .u64 (U (twoW 7 x y))) ∧ w' = w := fun w => c34 x y w
  obtain ⟨D, hD⟩ : ∃ D, U (twoW 7 x y) = D := ⟨_, rfl⟩
  rw [hD] at hc ⊢
  clear hD
  go_enter Try.func12, Try.ntmps12
  go_wp2_with (first | (go_at_call 19; refine (table_is _).mono ?_; rintro e w' ⟨rfl, hb⟩) | (go_at_call 34; refine (hc _).mono ?_; rintro e w'' ⟨rfl, rfl⟩))
  go_ret2
  exact ⟨rfl, hb⟩
set_option maxRecDepth 100000 in
theorem two_8 (x y : BitVec 64) (w : World) : Calls Try.prog 12 #[.int .i64 8, .int .u64 (U x), .int .u64 (U y)] w fun e w' => e = .returned (.tuple #[.int .u64 (U (twoW 8 x y)), .bool true]) ∧ Below w.heap.size w w' := by
  have hi : ∀ w, (Instr.index 39 (.agg #[fn_ 26, fn_ 27, fn_ 28, fn_ 29, fn_ 31, fn_ 32, fn_ 33, fn_ 34, fn_ 35, fn_ 36, fn_ 37, fn_ 38, fn_ 40, fn_ 42, fn_ 43, fn_ 45]) (.int .i64 8)).run Try.prog w = .ok (fn_ 35) w := fun _ => by kernel_rfl
  have hc : ∀ w, Calls Try.prog 35 #[.int .u64 (U x), .int .u64 (U y)] w fun e w' => e = .returned (.int .u64 (U (twoW 8 x y))) ∧ w' = w := fun w => c35 x y w
  obtain ⟨D, hD⟩ : ∃ D, U (twoW 8 x y) = D := ⟨_, rfl⟩
  rw [hD] at hc ⊢
  clear hD
  go_enter Try.func12, Try.ntmps12
  go_wp2_with (first | (go_at_call 19; refine (table_is _).mono ?_; rintro e w' ⟨rfl, hb⟩) | (go_at_call 35; refine (hc _).mono ?_; rintro e w'' ⟨rfl, rfl⟩))
  go_ret2
  exact ⟨rfl, hb⟩
set_option maxRecDepth 100000 in
theorem two_9 (x y : BitVec 64) (w : World) : Calls Try.prog 12 #[.int .i64 9, .int .u64 (U x), .int .u64 (U y)] w fun e w' => e = .returned (.tuple #[.int .u64 (U (twoW 9 x y)), .bool true]) ∧ Below w.heap.size w w' := by
  have hi : ∀ w, (Instr.index 39 (.agg #[fn_ 26, fn_ 27, fn_ 28, fn_ 29, fn_ 31, fn_ 32, fn_ 33, fn_ 34, fn_ 35, fn_ 36, fn_ 37, fn_ 38, fn_ 40, fn_ 42, fn_ 43, fn_ 45]) (.int .i64 9)).run Try.prog w = .ok (fn_ 36) w := fun _ => by kernel_rfl
  have hc : ∀ w, Calls Try.prog 36 #[.int .u64 (U x), .int .u64 (U y)] w fun e w' => e = .returned (.int .u64 (U (twoW 9 x y))) ∧ w' = w := fun w => c36 x y w
  obtain ⟨D, hD⟩ : ∃ D, U (twoW 9 x y) = D := ⟨_, rfl⟩
  rw [hD] at hc ⊢
  clear hD
  go_enter Try.func12, Try.ntmps12
  go_wp2_with (first | (go_at_call 19; refine (table_is _).mono ?_; rintro e w' ⟨rfl, hb⟩) | (go_at_call 36; refine (hc _).mono ?_; rintro e w'' ⟨rfl, rfl⟩))
  go_ret2
  exact ⟨rfl, hb⟩
set_option maxRecDepth 100000 in
theorem two_10 (x y : BitVec 64) (w : World) : Calls Try.prog 12 #[.int .i64 10, .int .u64 (U x), .int .u64 (U y)] w fun e w' => e = .returned (.tuple #[.int .u64 (U (twoW 10 x y)), .bool true]) ∧ Below w.heap.size w w' := by
  have hi : ∀ w, (Instr.index 39 (.agg #[fn_ 26, fn_ 27, fn_ 28, fn_ 29, fn_ 31, fn_ 32, fn_ 33, fn_ 34, fn_ 35, fn_ 36, fn_ 37, fn_ 38, fn_ 40, fn_ 42, fn_ 43, fn_ 45]) (.int .i64 10)).run Try.prog w = .ok (fn_ 37) w := fun _ => by kernel_rfl
  have hc : ∀ w, Calls Try.prog 37 #[.int .u64 (U x), .int .u64 (U y)] w fun e w' => e = .returned (.int .u64 (U (twoW 10 x y))) ∧ w' = w := fun w => c37 x y w
  obtain ⟨D, hD⟩ : ∃ D, U (twoW 10 x y) = D := ⟨_, rfl⟩
  rw [hD] at hc ⊢
  clear hD
  go_enter Try.func12, Try.ntmps12
  go_wp2_with (first | (go_at_call 19; refine (table_is _).mono ?_; rintro e w' ⟨rfl, hb⟩) | (go_at_call 37; refine (hc _).mono ?_; rintro e w'' ⟨rfl, rfl⟩))
  go_ret2
  exact ⟨rfl, hb⟩
set_option maxRecDepth 100000 in
theorem two_11 (x y : BitVec 64) (w : World) : Calls Try.prog 12 #[.int .i64 11, .int .u64 (U x), .int .u64 (U y)] w fun e w' => e = .returned (.tuple #[.int .u64 (U (twoW 11 x y)), .bool true]) ∧ Below w.heap.size w w' := by
  have hi : ∀ w, (Instr.index 39 (.agg #[fn_ 26, fn_ 27, fn_ 28, fn_ 29, fn_ 31, fn_ 32, fn_ 33, fn_ 34, fn_ 35, fn_ 36, fn_ 37, fn_ 38, fn_ 40, fn_ 42, fn_ 43, fn_ 45]) (.int .i64 11)).run Try.prog w = .ok (fn_ 38) w := fun _ => by kernel_rfl
  have hc : ∀ w, Calls Try.prog 38 #[.int .u64 (U x), .int .u64 (U y)] w fun e w' => e = .returned (.int .u64 (U (twoW 11 x y))) ∧ w' = w := fun w => c38 x y w
  obtain ⟨D, hD⟩ : ∃ D, U (twoW 11 x y) = D := ⟨_, rfl⟩
  rw [hD] at hc ⊢
  clear hD
  go_enter Try.func12, Try.ntmps12
  go_wp2_with (first | (go_at_call 19; refine (table_is _).mono ?_; rintro e w' ⟨rfl, hb⟩) | (go_at_call 38; refine (hc _).mono ?_; rintro e w'' ⟨rfl, rfl⟩))
  go_ret2
  exact ⟨rfl, hb⟩
set_option maxRecDepth 100000 in
theorem two_12 (x y : BitVec 64) (w : World) : Calls Try.prog 12 #[.int .i64 12, .int .u64 (U x), .int .u64 (U y)] w fun e w' => e = .returned (.tuple #[.int .u64 (U (twoW 12 x y)), .bool true]) ∧ Below w.heap.size w w' := by
  have hi : ∀ w, (Instr.index 39 (.agg #[fn_ 26, fn_ 27, fn_ 28, fn_ 29, fn_ 31, fn_ 32, fn_ 33, fn_ 34, fn_ 35, fn_ 36, fn_ 37, fn_ 38, fn_ 40, fn_ 42, fn_ 43, fn_ 45]) (.int .i64 12)).run Try.prog w = .ok (fn_ 40) w := fun _ => by kernel_rfl
  have hc : ∀ w, Calls Try.prog 40 #[.int .u64 (U x), .int .u64 (U y)] w fun e w' => e = .returned (.int .u64 (U (twoW 12 x y))) ∧ w' = w := fun w => c40 x y w
  obtain ⟨D, hD⟩ : ∃ D, U (twoW 12 x y) = D := ⟨_, rfl⟩
  rw [hD] at hc ⊢
  clear hD
  go_enter Try.func12, Try.ntmps12
  go_wp2_with (first | (go_at_call 19; refine (table_is _).mono ?_; rintro e w' ⟨rfl, hb⟩) | (go_at_call 40; refine (hc _).mono ?_; rintro e w'' ⟨rfl, rfl⟩))
  go_ret2
  exact ⟨rfl, hb⟩
set_option maxRecDepth 100000 in
theorem two_13 (x y : BitVec 64) (w : World) : Calls Try.prog 12 #[.int .i64 13, .int .u64 (U x), .int .u64 (U y)] w fun e w' => e = .returned (.tuple #[.int .u64 (U (twoW 13 x y)), .bool true]) ∧ Below w.heap.size w w' := by
  have hi : ∀ w, (Instr.index 39 (.agg #[fn_ 26, fn_ 27, fn_ 28, fn_ 29, fn_ 31, fn_ 32, fn_ 33, fn_ 34, fn_ 35, fn_ 36, fn_ 37, fn_ 38, fn_ 40, fn_ 42, fn_ 43, fn_ 45]) (.int .i64 13)).run Try.prog w = .ok (fn_ 42) w := fun _ => by kernel_rfl
  have hc : ∀ w, Calls Try.prog 42 #[.int .u64 (U x), .int .u64 (U y)] w fun e w' => e = .returned (.int .u64 (U (twoW 13 x y))) ∧ w' = w := fun w => c42 x y w
  obtain ⟨D, hD⟩ : ∃ D, U (twoW 13 x y) = D := ⟨_, rfl⟩
  rw [hD] at hc ⊢
  clear hD
  go_enter Try.func12, Try.ntmps12
  go_wp2_with (first | (go_at_call 19; refine (table_is _).mono ?_; rintro e w' ⟨rfl, hb⟩) | (go_at_call 42; refine (hc _).mono ?_; rintro e w'' ⟨rfl, rfl⟩))
  go_ret2
  exact ⟨rfl, hb⟩
set_option maxRecDepth 100000 in
theorem two_14 (x y : BitVec 64) (w : World) : Calls Try.prog 12 #[.int .i64 14, .int .u64 (U x), .int .u64 (U y)] w fun e w' => e = .returned (.tuple #[.int .u64 (U (twoW 14 x y)), .bool true]) ∧ Below w.heap.size w w' := by
  have hi : ∀ w, (Instr.index 39 (.agg #[fn_ 26, fn_ 27, fn_ 28, fn_ 29, fn_ 31, fn_ 32, fn_ 33, fn_ 34, fn_ 35, fn_ 36, fn_ 37, fn_ 38, fn_ 40, fn_ 42, fn_ 43, fn_ 45]) (.int .i64 14)).run Try.prog w = .ok (fn_ 43) w := fun _ => by kernel_rfl
  have hc : ∀ w, Calls Try.prog 43 #[.int .u64 (U x), .int .u64 (U y)] w fun e w' => e = .returned (.int .u64 (U (twoW 14 x y))) ∧ w' = w := fun w => c43 x y w
  obtain ⟨D, hD⟩ : ∃ D, U (twoW 14 x y) = D := ⟨_, rfl⟩
  rw [hD] at hc ⊢
  clear hD
  go_enter Try.func12, Try.ntmps12
  go_wp2_with (first | (go_at_call 19; refine (table_is _).mono ?_; rintro e w' ⟨rfl, hb⟩) | (go_at_call 43; refine (hc _).mono ?_; rintro e w'' ⟨rfl, rfl⟩))
  go_ret2
  exact ⟨rfl, hb⟩
set_option maxRecDepth 100000 in
theorem two_15 (x y : BitVec 64) (w : World) : Calls Try.prog 12 #[.int .i64 15, .int .u64 (U x), .int .u64 (U y)] w fun e w' => e = .returned (.tuple #[.int .u64 (U (twoW 15 x y)), .bool true]) ∧ Below w.heap.size w w' := by
  have hi : ∀ w, (Instr.index 39 (.agg #[fn_ 26, fn_ 27, fn_ 28, fn_ 29, fn_ 31, fn_ 32, fn_ 33, fn_ 34, fn_ 35, fn_ 36, fn_ 37, fn_ 38, fn_ 40, fn_ 42, fn_ 43, fn_ 45]) (.int .i64 15)).run Try.prog w = .ok (fn_ 45) w := fun _ => by kernel_rfl
  have hc : ∀ w, Calls Try.prog 45 #[.int .u64 (U x), .int .u64 (U y)] w fun e w' => e = .returned (.int .u64 (U (twoW 15 x y))) ∧ w' = w := fun w => c45 x y w
  obtain ⟨D, hD⟩ : ∃ D, U (twoW 15 x y) = D := ⟨_, rfl⟩
  rw [hD] at hc ⊢
  clear hD
  go_enter Try.func12, Try.ntmps12
  go_wp2_with (first | (go_at_call 19; refine (table_is _).mono ?_; rintro e w' ⟨rfl, hb⟩) | (go_at_call 45; refine (hc _).mono ?_; rintro e w'' ⟨rfl, rfl⟩))
  go_ret2
  exact ⟨rfl, hb⟩
theorem two_yes (c : Nat) (hc : c ≤ 15) (x y : BitVec 64) (w : World) : Calls Try.prog 12 #[.int .i64 (c : Int), .int .u64 (U x), .int .u64 (U y)] w fun e w' => e = .returned (.tuple #[.int .u64 (U (twoW c x y)), .bool true]) ∧ Below w.heap.size w w' := by
  match c, hc with
  | 0, _ => exact two_0 x y w
  | 1, _ => exact two_1 x y w
  | 2, _ => exact two_2 x y w
  | 3, _ => exact two_3 x y w
  | 4, _ => exact two_4 x y w
  | 5, _ => exact two_5 x y w
  | 6, _ => exact two_6 x y w
  | 7, _ => exact two_7 x y w
  | 8, _ => exact two_8 x y w
  | 9, _ => exact two_9 x y w
  | 10, _ => exact two_10 x y w
  | 11, _ => exact two_11 x y w
  | 12, _ => exact two_12 x y w
  | 13, _ => exact two_13 x y w
  | 14, _ => exact two_14 x y w
  | 15, _ => exact two_15 x y w
  | n + 16, h => exact absurd h (by omega)
theorem two_no (op : Int) (h : ¬ (0 ≤ op ∧ op ≤ 15)) (a b : Int) (w : World) : Calls Try.prog 12 #[.int .i64 op, .int .u64 a, .int .u64 b] w fun e w' => e = .returned (.tuple #[.int .u64 0, .bool false]) ∧ Below w.heap.size w w' := by
  by_cases h0 : op < 0
  · clear h
    go_enter Try.func12, Try.ntmps12
    go_wp2
    go_ret2
    exact ⟨rfl, Below.refl _ _⟩
  · have h1 : 15 < op := by omega
    clear h
    go_enter Try.func12, Try.ntmps12
    go_wp2
    go_ret2
    exact ⟨rfl, Below.refl _ _⟩
/-- What Two answers: told of words alone. -/
def twoF (a0 a1 a2 : Int) : Option (Int × Bool) :=
  if 0 ≤ a1 ∧ a1 < 18446744073709551616 ∧ 0 ≤ a2 ∧ a2 < 18446744073709551616 then
    (if 0 ≤ a0 ∧ a0 ≤ 15 then some (U (twoW a0.toNat (BitVec.ofInt 64 a1) (BitVec.ofInt 64 a2)), true) else some (0, false))
  else none
theorem two_calls (a0 a1 a2 r1 : Int) (r2 : Bool) (w : World) (h : twoF a0 a1 a2 = some (r1, r2)) :
    Calls Try.prog 12 #[.int .i64 a0, .int .u64 a1, .int .u64 a2] w fun e w' => e = .returned (.tuple #[.int .u64 r1, .bool r2]) ∧ Below w.heap.size w w' := by
  unfold twoF at h
  by_cases hw : 0 ≤ a1 ∧ a1 < 18446744073709551616 ∧ 0 ≤ a2 ∧ a2 < 18446744073709551616
  · rw [if_pos hw] at h
    obtain ⟨w0, w1, w2, w3⟩ := hw
    by_cases ho : 0 ≤ a0 ∧ a0 ≤ 15
    · rw [if_pos ho] at h
      simp only [Option.some.injEq, Prod.mk.injEq] at h
      obtain ⟨rfl, rfl⟩ := h
      have g := two_yes a0.toNat (by omega) (BitVec.ofInt 64 a1) (BitVec.ofInt 64 a2) w
      rw [U_of w0 w1, U_of w2 w3, Int.toNat_of_nonneg ho.1] at g
      exact g
    · rw [if_neg ho] at h
      simp only [Option.some.injEq, Prod.mk.injEq] at h
      obtain ⟨rfl, rfl⟩ := h
      exact two_no a0 ho a1 a2 w
  · rw [if_neg hw] at h
    cases h
end Go.Proofs.Ytcjcbnhncfohmaa.Hand
