/- Decode of package ins, walked. -/
import Derived.Test.YtbdlhhajblhmiaaDoorInsG
import Derived.Test.YtbdlhhajblhmiaaDoorInsH
import Derived.Test.YtbdlhhajblhmiaaDoorInsI
set_option linter.unusedVariables false
set_option linter.unusedSimpArgs false
namespace Go.Proofs.YtbdlhhajblhmiaaDoor.Ins
open Go Go.RowKit Go.Proofs Go.Proofs.YtbdlhhajblhmiaaDoorW.PrintWords Go.Proofs.YtbdlhhajblhmiaaDoor.Bv Go.Proofs.YtbdlhhajblhmiaaDoor.Bw Go.Proofs.YtbdlhhajblhmiaaDoor.BL Go.Proofs.YtbdlhhajblhmiaaDoor.QEncode Go.Maps

theorem ne_off {b i j : Nat} (h : i ≠ j) : (⟨b, i, none⟩ : Addr) ≠ ⟨b, j, none⟩ := fun e => by injection e with _ e; exact h e
theorem set_five {w : World} {b : Nat} (h : ∀ j, j < 5 → ∃ u, w.cell? ⟨b, j, none⟩ = some u) (v0 v1 v2 v3 v4 : Value) :
    let W := ((((w.setCell ⟨b, 0, none⟩ v0).setCell ⟨b, 1, none⟩ v1).setCell ⟨b, 2, none⟩ v2).setCell ⟨b, 3, none⟩ v3).setCell ⟨b, 4, none⟩ v4
    W.cell? ⟨b, 0, none⟩ = some v0 ∧ W.cell? ⟨b, 1, none⟩ = some v1 ∧ W.cell? ⟨b, 2, none⟩ = some v2 ∧ W.cell? ⟨b, 3, none⟩ = some v3 ∧ W.cell? ⟨b, 4, none⟩ = some v4 := by
  intro W
  obtain ⟨u0, h0⟩ := h 0 (by decide)
  obtain ⟨u1, h1⟩ := h 1 (by decide)
  obtain ⟨u2, h2⟩ := h 2 (by decide)
  obtain ⟨u3, h3⟩ := h 3 (by decide)
  obtain ⟨u4, h4⟩ := h 4 (by decide)
  have o : ∀ (w : World) (i j : Nat) (v : Value), i ≠ j → (w.setCell ⟨b, i, none⟩ v).cell? ⟨b, j, none⟩ = w.cell? ⟨b, j, none⟩ := fun w i j v hij => World.cell?_setCell_other _ _ _ _ (ne_off hij)
  have s : ∀ (w : World) (i : Nat) (v u : Value), w.cell? ⟨b, i, none⟩ = some u → (w.setCell ⟨b, i, none⟩ v).cell? ⟨b, i, none⟩ = some v := fun w i v u hu => World.cell?_setCell_same _ _ _ hu
  refine ⟨?_, ?_, ?_, ?_, ?_⟩
  · rw [o _ 4 0 _ (by decide), o _ 3 0 _ (by decide), o _ 2 0 _ (by decide), o _ 1 0 _ (by decide)]; exact s _ _ _ _ h0
  · rw [o _ 4 1 _ (by decide), o _ 3 1 _ (by decide), o _ 2 1 _ (by decide)]; exact s _ _ _ _ ((o _ 0 1 _ (by decide)).trans h1)
  · rw [o _ 4 2 _ (by decide), o _ 3 2 _ (by decide)]; exact s _ _ _ _ ((o _ 1 2 _ (by decide)).trans ((o _ 0 2 _ (by decide)).trans h2))
  · rw [o _ 4 3 _ (by decide)]; exact s _ _ _ _ ((o _ 2 3 _ (by decide)).trans ((o _ 1 3 _ (by decide)).trans ((o _ 0 3 _ (by decide)).trans h3)))
  · exact s _ _ _ _ ((o _ 3 4 _ (by decide)).trans ((o _ 2 4 _ (by decide)).trans ((o _ 1 4 _ (by decide)).trans ((o _ 0 4 _ (by decide)).trans h4))))
set_option maxHeartbeats 2000000 in
set_option maxRecDepth 100000 in
theorem dec_none (v : BitVec 64) (hv : U v ≤ 4294967295) (hf : findF v = none) (w : World) (L : Laid w) :
    Calls Tryd.prog 16 #[.int .u32 (U v)] w fun e w' => e = .returned (.tuple #[insV 0 0 0 0 0, .int .i64 3]) ∧ Below w.heap.size w w' := by
  have hU : IntKind.u64.wrap (U v) = U v := wrapUU v
  have hb2 : Below w.heap.size w (((w.alloc (.cells #[.int .i64 0, .int .i64 0, .int .i64 0, .int .i64 0, .int .i64 0] 23)).alloc (.cells #[.int .u64 (U v)] 38))) := ((Below.refl w.heap.size w).alloc (Nat.le_refl _) _).alloc (by simp) _
  have hF : Calls Tryd.prog 30 #[.int .u64 (U v)] ((w.alloc (.cells #[.int .i64 0, .int .i64 0, .int .i64 0, .int .i64 0, .int .i64 0] 23)).alloc (.cells #[.int .u64 (U v)] 38)) fun e w1 => e = .returned (.tuple #[.int .i64 0, .string ⟨#[]⟩, .bool false]) ∧ Below w.heap.size w w1 ∧ (∀ j, j < 5 → w1.cell? ⟨w.heap.size, j, none⟩ = some (.int .i64 0) ∧ w1.frozen? ⟨w.heap.size, j, none⟩ = false) ∧ w.heap.size < w1.heap.size := by
    refine (find_c v _ (L.below hb2)).mono ?_
    rintro e w1 ⟨he, hb⟩
    rw [hf] at he
    have := hb.size
    simp at this
    exact ⟨he, hb2.trans (hb.mono (by simp; omega)), fun j hj => ⟨(hb.cell (p := ⟨w.heap.size, j, none⟩) (by simp; omega)).trans (by match j, hj with | 0, _ => simp | 1, _ => simp | 2, _ => simp | 3, _ => simp | 4, _ => simp | n + 5, h => exact absurd h (by omega)), (hb.frozen (p := ⟨w.heap.size, j, none⟩) (by simp; omega)).trans (by rw [frozen?_alloc_cells, frozen?_alloc_cells]; simp [World.frozen?])⟩, by omega⟩
  go_enter Tryd.func16, Tryd.ntmps16
  go_wp2_with (go_at_call 30; refine hF.mono ?_; rintro e w1 ⟨rfl, hb1, hblk, hs1⟩; obtain ⟨c0, f0⟩ := hblk 0 (by decide); obtain ⟨c1, f1⟩ := hblk 1 (by decide); obtain ⟨c2, f2⟩ := hblk 2 (by decide); obtain ⟨c3, f3⟩ := hblk 3 (by decide); obtain ⟨c4, f4⟩ := hblk 4 (by decide); have gg := set_five (fun j hj => ⟨_, (hblk j hj).1⟩) (.int .i64 0) (.int .i64 0) (.int .i64 0) (.int .i64 0) (.int .i64 0); dsimp only at gg; obtain ⟨g0, g1, g2, g3, g4⟩ := gg; clear hblk)
  refine bodyPost_ret (v := .tuple #[insV 0 0 0 0 0, .int .i64 3]) (by simp [results, Tryd.results16, go_sem, g0, g1, g2, g3, g4]) rfl ⟨rfl, ?_⟩
  exact ((((hb1.setCell (Nat.le_refl _) _).setCell (Nat.le_refl _) _).setCell (Nat.le_refl _) _).setCell (Nat.le_refl _) _).setCell (Nat.le_refl _) _
end Go.Proofs.YtbdlhhajblhmiaaDoor.Ins
