/- Decode of package ins, walked, the contracts. -/
import Derived.Test.YtbdlhhajblhmiaaDoorInsK
set_option linter.unusedVariables false
set_option linter.unusedSimpArgs false
namespace Go.Proofs.YtbdlhhajblhmiaaDoor.Ins
open Go Go.RowKit Go.Proofs Go.Proofs.YtbdlhhajblhmiaaDoorW.PrintWords Go.Proofs.YtbdlhhajblhmiaaDoor.Bv Go.Proofs.YtbdlhhajblhmiaaDoor.Bw Go.Proofs.YtbdlhhajblhmiaaDoor.BL Go.Proofs.YtbdlhhajblhmiaaDoor.QEncode Go.Maps

theorem set_five_alloc {w : World} {b : Nat} (h : ∀ j, j < 5 → ∃ u, w.cell? ⟨b, j, none⟩ = some u) (hb : b < w.heap.size) (v0 v1 v2 v3 v4 : Value) (o : Obj) :
    let W := (((((w.setCell ⟨b, 0, none⟩ v0).setCell ⟨b, 1, none⟩ v1).setCell ⟨b, 2, none⟩ v2).setCell ⟨b, 3, none⟩ v3).setCell ⟨b, 4, none⟩ v4).alloc o
    W.cell? ⟨b, 0, none⟩ = some v0 ∧ W.cell? ⟨b, 1, none⟩ = some v1 ∧ W.cell? ⟨b, 2, none⟩ = some v2 ∧ W.cell? ⟨b, 3, none⟩ = some v3 ∧ W.cell? ⟨b, 4, none⟩ = some v4 := by
  have g := set_five h v0 v1 v2 v3 v4
  dsimp only at g ⊢
  obtain ⟨g0, g1, g2, g3, g4⟩ := g
  have e : ∀ j, (((((((w.setCell ⟨b, 0, none⟩ v0).setCell ⟨b, 1, none⟩ v1).setCell ⟨b, 2, none⟩ v2).setCell ⟨b, 3, none⟩ v3).setCell ⟨b, 4, none⟩ v4)).alloc o).cell? ⟨b, j, none⟩ = (((((w.setCell ⟨b, 0, none⟩ v0).setCell ⟨b, 1, none⟩ v1).setCell ⟨b, 2, none⟩ v2).setCell ⟨b, 3, none⟩ v3).setCell ⟨b, 4, none⟩ v4).cell? ⟨b, j, none⟩ := fun j => World.cell?_alloc_lt _ o ⟨b, j, none⟩ (by simpa using hb)
  exact ⟨(e 0).trans g0, (e 1).trans g1, (e 2).trans g2, (e 3).trans g3, (e 4).trans g4⟩
set_option maxHeartbeats 4000000 in
set_option maxRecDepth 100000 in
theorem walk_En (uv x : Int) (w : World)
    (hU : IntKind.u64.wrap uv = uv) (hne : (uv == 1048691) = false) (hne2 : (uv != 1048691) = true)
    (hFi : Calls Tryd.prog 30 #[.int .u64 uv] ((w.alloc (.cells #[.int .i64 0, .int .i64 0, .int .i64 0, .int .i64 0, .int .i64 0] 23)).alloc (.cells #[.int .u64 uv] 38)) fun e w1 => e = .returned (.tuple #[.int .i64 x, .string ⟨#[69]⟩, .bool true]) ∧ Below w.heap.size w w1 ∧ (∀ j, j < 5 → w1.cell? ⟨w.heap.size, j, none⟩ = some (.int .i64 0) ∧ w1.frozen? ⟨w.heap.size, j, none⟩ = false) ∧ w1.cell? ⟨w.heap.size + 1, 0, none⟩ = some (.int .u64 uv) ∧ w.heap.size + 1 < w1.heap.size)
    : Calls Tryd.prog 16 #[.int .u32 uv] w fun e w' => e = .returned (.tuple #[insV 0 0 0 0 0, .int .i64 3]) ∧ Below w.heap.size w w' := by
  go_enter Tryd.func16, Tryd.ntmps16
  go_wp2_with (go_at_call 30; refine hFi.mono ?_; rintro e w1 ⟨rfl, hb1, hblk, hcv, hs1⟩; obtain ⟨c0, f0⟩ := hblk 0 (by decide); obtain ⟨c1, f1⟩ := hblk 1 (by decide); obtain ⟨c2, f2⟩ := hblk 2 (by decide); obtain ⟨c3, f3⟩ := hblk 3 (by decide); obtain ⟨c4, f4⟩ := hblk 4 (by decide); have gg := set_five (fun j hj => ⟨_, (hblk j hj).1⟩) (.int .i64 0) (.int .i64 0) (.int .i64 0) (.int .i64 0) (.int .i64 0); dsimp only at gg; obtain ⟨g0, g1, g2, g3, g4⟩ := gg; clear hblk)
  refine bodyPost_ret (v := .tuple #[insV 0 0 0 0 0, .int .i64 3]) (by simp [results, Tryd.results16, go_sem, g0, g1, g2, g3, g4]) rfl ⟨rfl, ?_⟩
  exact ((((hb1.setCell (Nat.le_refl _) _).setCell (Nat.le_refl _) _).setCell (Nat.le_refl _) _).setCell (Nat.le_refl _) _).setCell (Nat.le_refl _) _
set_option maxHeartbeats 4000000 in
set_option maxRecDepth 100000 in
theorem walk_Ey (uv x : Int) (w : World)
    (hU : IntKind.u64.wrap uv = uv) (heq : (uv == 1048691) = true) (heq2 : (uv != 1048691) = false)
    (hFi : Calls Tryd.prog 30 #[.int .u64 uv] ((w.alloc (.cells #[.int .i64 0, .int .i64 0, .int .i64 0, .int .i64 0, .int .i64 0] 23)).alloc (.cells #[.int .u64 uv] 38)) fun e w1 => e = .returned (.tuple #[.int .i64 x, .string ⟨#[69]⟩, .bool true]) ∧ Below w.heap.size w w1 ∧ (∀ j, j < 5 → w1.cell? ⟨w.heap.size, j, none⟩ = some (.int .i64 0) ∧ w1.frozen? ⟨w.heap.size, j, none⟩ = false) ∧ w1.cell? ⟨w.heap.size + 1, 0, none⟩ = some (.int .u64 uv) ∧ w.heap.size + 1 < w1.heap.size)
    : Calls Tryd.prog 16 #[.int .u32 uv] w fun e w' => e = .returned (.tuple #[insV x 0 0 0 0, .int .i64 0]) ∧ Below w.heap.size w w' := by
  go_enter Tryd.func16, Tryd.ntmps16
  go_wp2_with (go_at_call 30; refine hFi.mono ?_; rintro e w1 ⟨rfl, hb1, hblk, hcv, hs1⟩; have s0 : w.heap.size < w1.heap.size := (by omega); obtain ⟨c0, f0⟩ := hblk 0 (by decide); obtain ⟨c1, f1⟩ := hblk 1 (by decide); obtain ⟨c2, f2⟩ := hblk 2 (by decide); obtain ⟨c3, f3⟩ := hblk 3 (by decide); obtain ⟨c4, f4⟩ := hblk 4 (by decide); have gg := set_five_alloc (fun j hj => ⟨_, (hblk j hj).1⟩) s0 (.int .i64 x) (.int .i64 0) (.int .i64 0) (.int .i64 0) (.int .i64 0) (.cells #[.int .i64 x, .int .i64 0, .int .i64 0, .int .i64 0, .int .i64 0] 23); dsimp only at gg; obtain ⟨g0, g1, g2, g3, g4⟩ := gg; clear hblk)
  refine bodyPost_ret (v := .tuple #[insV x 0 0 0 0, .int .i64 0]) (by simp [results, Tryd.results16, go_sem, g0, g1, g2, g3, g4]) rfl ⟨rfl, ?_⟩
  exact (((((hb1.setCell (Nat.le_refl _) _).setCell (Nat.le_refl _) _).setCell (Nat.le_refl _) _).setCell (Nat.le_refl _) _).setCell (Nat.le_refl _) _).alloc (by simp; omega) _
theorem dec_R (v : BitVec 64) (x : Nat) (hx : x ≤ 42) (hF : fm x = .R) (hf : findF v = some x) (w : World) (L : Laid w) :
    Calls Tryd.prog 16 #[.int .u32 (U v)] w fun e w' => e = .returned (.tuple #[insV (x : Int) (wrap64 (U (fld v 7 5))) (wrap64 (U (fld v 15 5))) (wrap64 (U (fld v 20 5))) (0), .int .i64 0]) ∧ Below w.heap.size w w' := by
  have hs : ¬ (22 ≤ (x : Int) ∧ (x : Int) ≤ 24) := no_shift (x : Int) (by omega) (by simpa using hF) (by decide)
  have hsh := shift_c (x : Int)
  rw [decide_eq_false hs] at hsh
  exact walk_R (U v) (x : Int) (wrap64 (U (fld v 7 5))) (wrap64 (U (fld v 15 5))) (wrap64 (U (fld v 20 5))) (0) w (wrapUU v) (find_pre v x .R hF hf w L) (has_c .R) hsh (fun k w hc => reg7y v k w hc) (fun k w hc => reg15y v k w hc) (fun k w hc => reg20y v k w hc)
theorem dec_I (v : BitVec 64) (x : Nat) (hx : x ≤ 42) (hF : fm x = .I) (hs : ¬ (22 ≤ (x : Int) ∧ (x : Int) ≤ 24)) (hf : findF v = some x) (w : World) (L : Laid w) :
    Calls Tryd.prog 16 #[.int .u32 (U v)] w fun e w' => e = .returned (.tuple #[insV (x : Int) (wrap64 (U (fld v 7 5))) (wrap64 (U (fld v 15 5))) (0) (S (sg (pt (0#64) 0 12 (fld v 20 12)) 12)), .int .i64 0]) ∧ Below w.heap.size w w' := by
  have hsh := shift_c (x : Int)
  rw [decide_eq_false hs] at hsh
  exact walk_I (U v) (x : Int) (wrap64 (U (fld v 7 5))) (wrap64 (U (fld v 15 5))) (0) (U (fld v 20 12)) (U (pt (0#64) 0 12 (fld v 20 12))) (S (sg (pt (0#64) 0 12 (fld v 20 12)) 12)) w (wrapUU v) (find_pre v x .I hF hf w L) (has_c .I) hsh (fun k w hc => reg7y v k w hc) (fun k w hc => reg15y v k w hc) (fun k w hc => reg20n v k w hc) (fun w => field_c v _ _ 20 12 rfl rfl (by decide) w) (fun w => put0_c _ _ _ 0 12 rfl rfl (by decide) w) (long_c .I) (fun w => sign_c _ _ 12 rfl (by decide) (by decide) w)
theorem dec_Ish (v : BitVec 64) (x : Nat) (hx : x ≤ 42) (hF : fm x = .I) (hs : 22 ≤ (x : Int) ∧ (x : Int) ≤ 24) (hf : findF v = some x) (w : World) (L : Laid w) :
    Calls Tryd.prog 16 #[.int .u32 (U v)] w fun e w' => e = .returned (.tuple #[insV (x : Int) (wrap64 (U (fld v 7 5))) (wrap64 (U (fld v 15 5))) (0) (S (sg (fld (pt (0#64) 0 12 (fld v 20 12)) 0 6) 12)), .int .i64 0]) ∧ Below w.heap.size w w' := by
  have hsh := shift_c (x : Int)
  rw [decide_eq_true hs] at hsh
  exact walk_Ish (U v) (x : Int) (wrap64 (U (fld v 7 5))) (wrap64 (U (fld v 15 5))) (0) (U (fld v 20 12)) (U (pt (0#64) 0 12 (fld v 20 12))) (U (fld (pt (0#64) 0 12 (fld v 20 12)) 0 6)) (S (sg (fld (pt (0#64) 0 12 (fld v 20 12)) 0 6) 12)) w (wrapUU v) (find_pre v x .I hF hf w L) (has_c .I) hsh (fun k w hc => reg7y v k w hc) (fun k w hc => reg15y v k w hc) (fun k w hc => reg20n v k w hc) (fun w => field_c v _ _ 20 12 rfl rfl (by decide) w) (fun w => put0_c _ _ _ 0 12 rfl rfl (by decide) w) (fun w => field_c _ _ _ 0 6 rfl rfl (by decide) w) (long_c .I) (fun w => sign_c _ _ 12 rfl (by decide) (by decide) w)
theorem dec_S (v : BitVec 64) (x : Nat) (hx : x ≤ 42) (hF : fm x = .S) (hf : findF v = some x) (w : World) (L : Laid w) :
    Calls Tryd.prog 16 #[.int .u32 (U v)] w fun e w' => e = .returned (.tuple #[insV (x : Int) (0) (wrap64 (U (fld v 15 5))) (wrap64 (U (fld v 20 5))) (S (sg (pt (pt (0#64) 0 5 (fld v 7 5)) 5 7 (fld v 25 7)) 12)), .int .i64 0]) ∧ Below w.heap.size w w' := by
  have hs : ¬ (22 ≤ (x : Int) ∧ (x : Int) ≤ 24) := no_shift (x : Int) (by omega) (by simpa using hF) (by decide)
  have hsh := shift_c (x : Int)
  rw [decide_eq_false hs] at hsh
  exact walk_S (U v) (x : Int) (0) (wrap64 (U (fld v 15 5))) (wrap64 (U (fld v 20 5))) (U (fld v 7 5)) (U (fld v 25 7)) (U (pt (0#64) 0 5 (fld v 7 5))) (U (pt (pt (0#64) 0 5 (fld v 7 5)) 5 7 (fld v 25 7))) (S (sg (pt (pt (0#64) 0 5 (fld v 7 5)) 5 7 (fld v 25 7)) 12)) w (wrapUU v) (find_pre v x .S hF hf w L) (has_c .S) hsh (fun k w hc => reg7n v k w hc) (fun k w hc => reg15y v k w hc) (fun k w hc => reg20y v k w hc) (fun w => field_c v _ _ 7 5 rfl rfl (by decide) w) (fun w => put0_c _ _ _ 0 5 rfl rfl (by decide) w) (fun w => field_c v _ _ 25 7 rfl rfl (by decide) w) (fun w => put_c _ _ _ _ 5 7 rfl rfl (by decide) w) (long_c .S) (fun w => sign_c _ _ 12 rfl (by decide) (by decide) w)
theorem dec_B (v : BitVec 64) (x : Nat) (hx : x ≤ 42) (hF : fm x = .B) (hf : findF v = some x) (w : World) (L : Laid w) :
    Calls Tryd.prog 16 #[.int .u32 (U v)] w fun e w' => e = .returned (.tuple #[insV (x : Int) (0) (wrap64 (U (fld v 15 5))) (wrap64 (U (fld v 20 5))) (S (sg (pt (pt (pt (pt (0#64) 1 4 (fld v 8 4)) 5 6 (fld v 25 6)) 11 1 (fld v 7 1)) 12 1 (fld v 31 1)) 13)), .int .i64 0]) ∧ Below w.heap.size w w' := by
  have hs : ¬ (22 ≤ (x : Int) ∧ (x : Int) ≤ 24) := no_shift (x : Int) (by omega) (by simpa using hF) (by decide)
  have hsh := shift_c (x : Int)
  rw [decide_eq_false hs] at hsh
  exact walk_B (U v) (x : Int) (0) (wrap64 (U (fld v 15 5))) (wrap64 (U (fld v 20 5))) (U (fld v 8 4)) (U (fld v 25 6)) (U (fld v 7 1)) (U (fld v 31 1)) (U (pt (0#64) 1 4 (fld v 8 4))) (U (pt (pt (0#64) 1 4 (fld v 8 4)) 5 6 (fld v 25 6))) (U (pt (pt (pt (0#64) 1 4 (fld v 8 4)) 5 6 (fld v 25 6)) 11 1 (fld v 7 1))) (U (pt (pt (pt (pt (0#64) 1 4 (fld v 8 4)) 5 6 (fld v 25 6)) 11 1 (fld v 7 1)) 12 1 (fld v 31 1))) (S (sg (pt (pt (pt (pt (0#64) 1 4 (fld v 8 4)) 5 6 (fld v 25 6)) 11 1 (fld v 7 1)) 12 1 (fld v 31 1)) 13)) w (wrapUU v) (find_pre v x .B hF hf w L) (has_c .B) hsh (fun k w hc => reg7n v k w hc) (fun k w hc => reg15y v k w hc) (fun k w hc => reg20y v k w hc) (fun w => field_c v _ _ 8 4 rfl rfl (by decide) w) (fun w => put0_c _ _ _ 1 4 rfl rfl (by decide) w) (fun w => field_c v _ _ 25 6 rfl rfl (by decide) w) (fun w => put_c _ _ _ _ 5 6 rfl rfl (by decide) w) (fun w => field_c v _ _ 7 1 rfl rfl (by decide) w) (fun w => put_c _ _ _ _ 11 1 rfl rfl (by decide) w) (fun w => field_c v _ _ 31 1 rfl rfl (by decide) w) (fun w => put_c _ _ _ _ 12 1 rfl rfl (by decide) w) (long_c .B) (fun w => sign_c _ _ 13 rfl (by decide) (by decide) w)
theorem dec_U (v : BitVec 64) (x : Nat) (hx : x ≤ 42) (hF : fm x = .U) (hf : findF v = some x) (w : World) (L : Laid w) :
    Calls Tryd.prog 16 #[.int .u32 (U v)] w fun e w' => e = .returned (.tuple #[insV (x : Int) (wrap64 (U (fld v 7 5))) (0) (0) (S (sg (pt (0#64) 12 20 (fld v 12 20)) 32)), .int .i64 0]) ∧ Below w.heap.size w w' := by
  have hs : ¬ (22 ≤ (x : Int) ∧ (x : Int) ≤ 24) := no_shift (x : Int) (by omega) (by simpa using hF) (by decide)
  have hsh := shift_c (x : Int)
  rw [decide_eq_false hs] at hsh
  exact walk_U (U v) (x : Int) (wrap64 (U (fld v 7 5))) (0) (0) (U (fld v 12 20)) (U (pt (0#64) 12 20 (fld v 12 20))) (S (sg (pt (0#64) 12 20 (fld v 12 20)) 32)) w (wrapUU v) (find_pre v x .U hF hf w L) (has_c .U) hsh (fun k w hc => reg7y v k w hc) (fun k w hc => reg15n v k w hc) (fun k w hc => reg20n v k w hc) (fun w => field_c v _ _ 12 20 rfl rfl (by decide) w) (fun w => put0_c _ _ _ 12 20 rfl rfl (by decide) w) (long_c .U) (fun w => sign_c _ _ 32 rfl (by decide) (by decide) w)
theorem dec_J (v : BitVec 64) (x : Nat) (hx : x ≤ 42) (hF : fm x = .J) (hf : findF v = some x) (w : World) (L : Laid w) :
    Calls Tryd.prog 16 #[.int .u32 (U v)] w fun e w' => e = .returned (.tuple #[insV (x : Int) (wrap64 (U (fld v 7 5))) (0) (0) (S (sg (pt (pt (pt (pt (0#64) 1 10 (fld v 21 10)) 11 1 (fld v 20 1)) 12 8 (fld v 12 8)) 20 1 (fld v 31 1)) 21)), .int .i64 0]) ∧ Below w.heap.size w w' := by
  have hs : ¬ (22 ≤ (x : Int) ∧ (x : Int) ≤ 24) := no_shift (x : Int) (by omega) (by simpa using hF) (by decide)
  have hsh := shift_c (x : Int)
  rw [decide_eq_false hs] at hsh
  exact walk_J (U v) (x : Int) (wrap64 (U (fld v 7 5))) (0) (0) (U (fld v 21 10)) (U (fld v 20 1)) (U (fld v 12 8)) (U (fld v 31 1)) (U (pt (0#64) 1 10 (fld v 21 10))) (U (pt (pt (0#64) 1 10 (fld v 21 10)) 11 1 (fld v 20 1))) (U (pt (pt (pt (0#64) 1 10 (fld v 21 10)) 11 1 (fld v 20 1)) 12 8 (fld v 12 8))) (U (pt (pt (pt (pt (0#64) 1 10 (fld v 21 10)) 11 1 (fld v 20 1)) 12 8 (fld v 12 8)) 20 1 (fld v 31 1))) (S (sg (pt (pt (pt (pt (0#64) 1 10 (fld v 21 10)) 11 1 (fld v 20 1)) 12 8 (fld v 12 8)) 20 1 (fld v 31 1)) 21)) w (wrapUU v) (find_pre v x .J hF hf w L) (has_c .J) hsh (fun k w hc => reg7y v k w hc) (fun k w hc => reg15n v k w hc) (fun k w hc => reg20n v k w hc) (fun w => field_c v _ _ 21 10 rfl rfl (by decide) w) (fun w => put0_c _ _ _ 1 10 rfl rfl (by decide) w) (fun w => field_c v _ _ 20 1 rfl rfl (by decide) w) (fun w => put_c _ _ _ _ 11 1 rfl rfl (by decide) w) (fun w => field_c v _ _ 12 8 rfl rfl (by decide) w) (fun w => put_c _ _ _ _ 12 8 rfl rfl (by decide) w) (fun w => field_c v _ _ 31 1 rfl rfl (by decide) w) (fun w => put_c _ _ _ _ 20 1 rfl rfl (by decide) w) (long_c .J) (fun w => sign_c _ _ 21 rfl (by decide) (by decide) w)
end Go.Proofs.YtbdlhhajblhmiaaDoor.Ins
