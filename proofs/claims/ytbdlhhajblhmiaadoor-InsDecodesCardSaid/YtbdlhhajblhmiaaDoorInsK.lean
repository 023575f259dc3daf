/- Decode of package ins, walked, form by form. -/
import Derived.Test.YtbdlhhajblhmiaaDoorInsJ
set_option linter.unusedVariables false
set_option linter.unusedSimpArgs false
namespace Go.Proofs.YtbdlhhajblhmiaaDoor.Ins
open Go Go.RowKit Go.Proofs Go.Proofs.YtbdlhhajblhmiaaDoorW.PrintWords Go.Proofs.YtbdlhhajblhmiaaDoor.Bv Go.Proofs.YtbdlhhajblhmiaaDoor.Bw Go.Proofs.YtbdlhhajblhmiaaDoor.BL Go.Proofs.YtbdlhhajblhmiaaDoor.QEncode Go.Maps

structure DBox (w W : World) (X : Nat) (v x d a b n : Int) : Prop where
  below : Below w.heap.size w W
  ltX : w.heap.size + 1 < X
  szX : X < W.heap.size
  s0 : w.heap.size < W.heap.size
  s1 : w.heap.size + 1 < W.heap.size
  cv : W.cell? ⟨w.heap.size + 1, 0, none⟩ = some (.int .u64 v)
  r0 : W.cell? ⟨w.heap.size, 0, none⟩ = some (.int .i64 0)
  r1 : W.cell? ⟨w.heap.size, 1, none⟩ = some (.int .i64 0)
  r2 : W.cell? ⟨w.heap.size, 2, none⟩ = some (.int .i64 0)
  r3 : W.cell? ⟨w.heap.size, 3, none⟩ = some (.int .i64 0)
  r4 : W.cell? ⟨w.heap.size, 4, none⟩ = some (.int .i64 0)
  f0 : W.frozen? ⟨w.heap.size, 0, none⟩ = false
  f1 : W.frozen? ⟨w.heap.size, 1, none⟩ = false
  f2 : W.frozen? ⟨w.heap.size, 2, none⟩ = false
  f3 : W.frozen? ⟨w.heap.size, 3, none⟩ = false
  f4 : W.frozen? ⟨w.heap.size, 4, none⟩ = false
  x0 : W.cell? ⟨X, 0, none⟩ = some (.int .i64 x)
  x1 : W.cell? ⟨X, 1, none⟩ = some (.int .i64 d)
  x2 : W.cell? ⟨X, 2, none⟩ = some (.int .i64 a)
  x3 : W.cell? ⟨X, 3, none⟩ = some (.int .i64 b)
  x4 : W.cell? ⟨X, 4, none⟩ = some (.int .i64 n)
  g0 : W.frozen? ⟨X, 0, none⟩ = false
  g1 : W.frozen? ⟨X, 1, none⟩ = false
  g2 : W.frozen? ⟨X, 2, none⟩ = false
  g3 : W.frozen? ⟨X, 3, none⟩ = false
  g4 : W.frozen? ⟨X, 4, none⟩ = false
/-- What stays in a later world. -/
theorem DBox.later {w W W' : World} {X : Nat} {v x d a b n : Int} (D : DBox w W X v x d a b n) (hb : Below W.heap.size W W') : DBox w W' X v x d a b n := by
  have c : ∀ k j u, k < W.heap.size → W.cell? ⟨k, j, none⟩ = some u → W'.cell? ⟨k, j, none⟩ = some u := fun k j u hk hu => (hb.cell (p := ⟨k, j, none⟩) hk).trans hu
  have f : ∀ k j, k < W.heap.size → W.frozen? ⟨k, j, none⟩ = false → W'.frozen? ⟨k, j, none⟩ = false := fun k j hk hu => (hb.frozen (p := ⟨k, j, none⟩) hk).trans hu
  have z := hb.size
  have s0 := D.s0
  have s1 := D.s1
  have sX := D.szX
  exact ⟨D.below.trans (hb.mono (by omega)), D.ltX, by omega, by omega, by omega, c _ _ _ s1 D.cv, c _ _ _ s0 D.r0, c _ _ _ s0 D.r1, c _ _ _ s0 D.r2, c _ _ _ s0 D.r3, c _ _ _ s0 D.r4,
    f _ _ s0 D.f0, f _ _ s0 D.f1, f _ _ s0 D.f2, f _ _ s0 D.f3, f _ _ s0 D.f4, c _ _ _ sX D.x0, c _ _ _ sX D.x1, c _ _ _ sX D.x2, c _ _ _ sX D.x3, c _ _ _ sX D.x4,
    f _ _ sX D.g0, f _ _ sX D.g1, f _ _ sX D.g2, f _ _ sX D.g3, f _ _ sX D.g4⟩
theorem DBox.res {w W : World} {X : Nat} {v x d a b n : Int} (D : DBox w W X v x d a b n) (j : Nat) (hj : j < 5) : W.cell? ⟨w.heap.size, j, none⟩ = some (.int .i64 0) := by
  match j, hj with
  | 0, _ => exact D.r0
  | 1, _ => exact D.r1
  | 2, _ => exact D.r2
  | 3, _ => exact D.r3
  | 4, _ => exact D.r4
  | n + 5, h => exact absurd h (by omega)
theorem DBox.go {w W W1 : World} {X : Nat} {v x d a b n : Int} (D : DBox w W X v x d a b n) {c : Code} {K} {act : Act} (hb : Below W.heap.size W W1) (h : ∀ W', DBox w W' X v x d a b n → Code.wp Tryd.prog c K act W') : Code.wp Tryd.prog c K act W1 := h W1 (D.later hb)
theorem dbox {w w1 : World} {v : Int} (x d a b : Int) (n : Nat) (hb1 : Below w.heap.size w w1) (hblk : ∀ j, j < 5 → w1.cell? ⟨w.heap.size, j, none⟩ = some (.int .i64 0) ∧ w1.frozen? ⟨w.heap.size, j, none⟩ = false)
    (hcv : w1.cell? ⟨w.heap.size + 1, 0, none⟩ = some (.int .u64 v)) (hs1 : w.heap.size + 1 < w1.heap.size) :
    DBox w (((((w1.alloc (.cells #[.int .i64 x, .int .i64 0, .int .i64 0, .int .i64 0, .int .i64 0] 23)).drewN n).setCell ⟨w1.heap.size, 1, none⟩ (.int .i64 d)).setCell ⟨w1.heap.size, 2, none⟩ (.int .i64 a)).setCell ⟨w1.heap.size, 3, none⟩ (.int .i64 b)) w1.heap.size v x d a b 0 := by
  have hB : Below w1.heap.size w1 ((w1.alloc (.cells #[.int .i64 x, .int .i64 0, .int .i64 0, .int .i64 0, .int .i64 0] 23)).drewN n) := pw_below_drewN ((Below.refl _ _).alloc (Nat.le_refl _) _) _
  have hx : ∀ j, j < 5 → ∃ u, ((w1.alloc (.cells #[.int .i64 x, .int .i64 0, .int .i64 0, .int .i64 0, .int .i64 0] 23)).drewN n).cell? ⟨w1.heap.size, j, none⟩ = some u := by
    intro j hj
    match j, hj with
    | 0, _ => exact ⟨_, cells_at w1 _ _ _ rfl 0 _ rfl⟩
    | 1, _ => exact ⟨_, cells_at w1 _ _ _ rfl 1 _ rfl⟩
    | 2, _ => exact ⟨_, cells_at w1 _ _ _ rfl 2 _ rfl⟩
    | 3, _ => exact ⟨_, cells_at w1 _ _ _ rfl 3 _ rfl⟩
    | 4, _ => exact ⟨_, cells_at w1 _ _ _ rfl 4 _ rfl⟩
    | n + 5, h => exact absurd h (by omega)
  have hx0 : ((w1.alloc (.cells #[.int .i64 x, .int .i64 0, .int .i64 0, .int .i64 0, .int .i64 0] 23)).drewN n).cell? ⟨w1.heap.size, 0, none⟩ = some (.int .i64 x) := cells_at w1 _ _ _ rfl 0 _ rfl
  have hx4 : ((w1.alloc (.cells #[.int .i64 x, .int .i64 0, .int .i64 0, .int .i64 0, .int .i64 0] 23)).drewN n).cell? ⟨w1.heap.size, 4, none⟩ = some (.int .i64 0) := cells_at w1 _ _ _ rfl 4 _ rfl
  have hfx : ∀ j, ((w1.alloc (.cells #[.int .i64 x, .int .i64 0, .int .i64 0, .int .i64 0, .int .i64 0] 23)).drewN n).frozen? ⟨w1.heap.size, j, none⟩ = false := by
    intro j
    show (w1.alloc (.cells #[.int .i64 x, .int .i64 0, .int .i64 0, .int .i64 0, .int .i64 0] 23)).frozen? ⟨w1.heap.size, j, none⟩ = false
    rw [frozen?_alloc_cells]; simp [World.frozen?]
  have hsz : w1.heap.size < ((w1.alloc (.cells #[.int .i64 x, .int .i64 0, .int .i64 0, .int .i64 0, .int .i64 0] 23)).drewN n).heap.size := by simp
  generalize (w1.alloc (.cells #[.int .i64 x, .int .i64 0, .int .i64 0, .int .i64 0, .int .i64 0] 23)).drewN n = W at hB hx hx0 hx4 hfx hsz ⊢
  have o : ∀ (w : World) (i j : Nat) (v : Value), i ≠ j → (w.setCell ⟨w1.heap.size, i, none⟩ v).cell? ⟨w1.heap.size, j, none⟩ = w.cell? ⟨w1.heap.size, j, none⟩ := fun w i j v hij => World.cell?_setCell_other _ _ _ _ (ne_off hij)
  have s : ∀ (w : World) (i : Nat) (v u : Value), w.cell? ⟨w1.heap.size, i, none⟩ = some u → (w.setCell ⟨w1.heap.size, i, none⟩ v).cell? ⟨w1.heap.size, i, none⟩ = some v := fun w i v u hu => World.cell?_setCell_same _ _ _ hu
  have hB3 : Below w1.heap.size w1 (((W.setCell ⟨w1.heap.size, 1, none⟩ (.int .i64 d)).setCell ⟨w1.heap.size, 2, none⟩ (.int .i64 a)).setCell ⟨w1.heap.size, 3, none⟩ (.int .i64 b)) := ((hB.setCell (Nat.le_refl _) _).setCell (Nat.le_refl _) _).setCell (Nat.le_refl _) _
  have c : ∀ k j u, k < w1.heap.size → w1.cell? ⟨k, j, none⟩ = some u → (((W.setCell ⟨w1.heap.size, 1, none⟩ (.int .i64 d)).setCell ⟨w1.heap.size, 2, none⟩ (.int .i64 a)).setCell ⟨w1.heap.size, 3, none⟩ (.int .i64 b)).cell? ⟨k, j, none⟩ = some u := fun k j u hk hu => (hB3.cell (p := ⟨k, j, none⟩) hk).trans hu
  have f : ∀ k j, k < w1.heap.size → w1.frozen? ⟨k, j, none⟩ = false → (((W.setCell ⟨w1.heap.size, 1, none⟩ (.int .i64 d)).setCell ⟨w1.heap.size, 2, none⟩ (.int .i64 a)).setCell ⟨w1.heap.size, 3, none⟩ (.int .i64 b)).frozen? ⟨k, j, none⟩ = false := fun k j hk hu => (hB3.frozen (p := ⟨k, j, none⟩) hk).trans hu
  have fx : ∀ j, (((W.setCell ⟨w1.heap.size, 1, none⟩ (.int .i64 d)).setCell ⟨w1.heap.size, 2, none⟩ (.int .i64 a)).setCell ⟨w1.heap.size, 3, none⟩ (.int .i64 b)).frozen? ⟨w1.heap.size, j, none⟩ = false := fun j => by simpa using hfx j
  obtain ⟨u1, h1⟩ := hx 1 (by decide)
  obtain ⟨u2, h2⟩ := hx 2 (by decide)
  obtain ⟨u3, h3⟩ := hx 3 (by decide)
  have s0 : w.heap.size < w1.heap.size := by omega
  refine ⟨hb1.trans (hB3.mono (by omega)), hs1, by simpa using hsz, by simp; omega, by simp; omega, c _ _ _ hs1 hcv, c _ _ _ s0 (hblk 0 (by decide)).1, c _ _ _ s0 (hblk 1 (by decide)).1, c _ _ _ s0 (hblk 2 (by decide)).1, c _ _ _ s0 (hblk 3 (by decide)).1, c _ _ _ s0 (hblk 4 (by decide)).1,
    f _ _ s0 (hblk 0 (by decide)).2, f _ _ s0 (hblk 1 (by decide)).2, f _ _ s0 (hblk 2 (by decide)).2, f _ _ s0 (hblk 3 (by decide)).2, f _ _ s0 (hblk 4 (by decide)).2, ?_, ?_, ?_, ?_, ?_, fx 0, fx 1, fx 2, fx 3, fx 4⟩
  · rw [o _ 3 0 _ (by decide), o _ 2 0 _ (by decide), o _ 1 0 _ (by decide)]; exact hx0
  · rw [o _ 3 1 _ (by decide), o _ 2 1 _ (by decide)]; exact s _ _ _ _ h1
  · rw [o _ 3 2 _ (by decide)]; exact s _ _ _ _ ((o _ 1 2 _ (by decide)).trans h2)
  · exact s _ _ _ _ ((o _ 2 3 _ (by decide)).trans ((o _ 1 3 _ (by decide)).trans h3))
  · rw [o _ 3 4 _ (by decide), o _ 2 4 _ (by decide), o _ 1 4 _ (by decide)]; exact hx4
theorem reg7y (v : BitVec 64) (b : Nat) (w : World) (hc : w.cell? ⟨b, 0, none⟩ = some (.int .u64 (U v))) :
    Calls Tryd.prog 31 #[.int .i64 7, .bool true, .pointer (some ⟨b, 0, none⟩)] w fun e w' => e = .returned (.int .i64 (wrap64 (U (fld v 7 5)))) ∧ Drawn0 w w' := regAt_yes v 7 (by decide) b w hc
theorem reg15y (v : BitVec 64) (b : Nat) (w : World) (hc : w.cell? ⟨b, 0, none⟩ = some (.int .u64 (U v))) :
    Calls Tryd.prog 31 #[.int .i64 15, .bool true, .pointer (some ⟨b, 0, none⟩)] w fun e w' => e = .returned (.int .i64 (wrap64 (U (fld v 15 5)))) ∧ Drawn0 w w' := regAt_yes v 15 (by decide) b w hc
theorem reg20y (v : BitVec 64) (b : Nat) (w : World) (hc : w.cell? ⟨b, 0, none⟩ = some (.int .u64 (U v))) :
    Calls Tryd.prog 31 #[.int .i64 20, .bool true, .pointer (some ⟨b, 0, none⟩)] w fun e w' => e = .returned (.int .i64 (wrap64 (U (fld v 20 5)))) ∧ Drawn0 w w' := regAt_yes v 20 (by decide) b w hc
theorem reg7n (v : BitVec 64) (b : Nat) (w : World) (hc : w.cell? ⟨b, 0, none⟩ = some (.int .u64 (U v))) :
    Calls Tryd.prog 31 #[.int .i64 7, .bool false, .pointer (some ⟨b, 0, none⟩)] w fun e w' => e = .returned (.int .i64 0) ∧ Drawn0 w w' := regAt_no v 7 (by decide) b w hc
theorem reg15n (v : BitVec 64) (b : Nat) (w : World) (hc : w.cell? ⟨b, 0, none⟩ = some (.int .u64 (U v))) :
    Calls Tryd.prog 31 #[.int .i64 15, .bool false, .pointer (some ⟨b, 0, none⟩)] w fun e w' => e = .returned (.int .i64 0) ∧ Drawn0 w w' := regAt_no v 15 (by decide) b w hc
theorem reg20n (v : BitVec 64) (b : Nat) (w : World) (hc : w.cell? ⟨b, 0, none⟩ = some (.int .u64 (U v))) :
    Calls Tryd.prog 31 #[.int .i64 20, .bool false, .pointer (some ⟨b, 0, none⟩)] w fun e w' => e = .returned (.int .i64 0) ∧ Drawn0 w w' := regAt_no v 20 (by decide) b w hc
theorem sign_c (v : BitVec 64) (n : Int) (m : Nat) (hm : n = m) (h1 : 1 ≤ m) (h2 : m ≤ 64) (w : World) :
    Calls Tryd.prog 32 #[.int .u64 (U v), .int .i64 n] w fun e w' => e = .returned (.int .i64 (S (sg v m))) ∧ Drawn0 w w' := by
  refine bits_Sign.calls (U v) n _ w ?_
  subst hm
  have := sign_yes v (n := (m : Int)) (by omega) (by omega)
  rwa [Int.toNat_natCast] at this
theorem put0_c (x : BitVec 64) (f n : Int) (fn nn : Nat) (hf : f = fn) (hn : n = nn) (h : fn + nn ≤ 64) (w : World) :
    Calls Tryd.prog 21 #[.int .u64 0, .int .i64 f, .int .i64 n, .int .u64 (U x)] w fun e w' => e = .returned (.tuple #[.int .u64 (U (pt 0#64 fn nn x)), .bool true]) ∧ Drawn0 w w' :=
  put_c 0#64 x f n fn nn hf hn h w
theorem Drawn0.below {w w' : World} (h : Drawn0 w w') : Below w.heap.size w w' := by
  obtain ⟨n, rfl⟩ := h
  exact pw_below_drewN (Below.refl _ _) n
theorem after_long {w W W' : World} {X : Nat} {v x d a b n : Int} (D : DBox w W X v x d a b n) (hb : Below W.heap.size W W') (m : Int) : DBox w (W'.setCell ⟨X, 4, none⟩ (.int .i64 m)) X v x d a b m := by
  have D2 := D.later hb
  have lX := D.ltX
  have o : ∀ (i j : Nat) (v : Value), i ≠ j → (W'.setCell ⟨X, i, none⟩ v).cell? ⟨X, j, none⟩ = W'.cell? ⟨X, j, none⟩ := fun i j v hij => World.cell?_setCell_other _ _ _ _ (ne_off hij)
  have hB : Below X W' (W'.setCell ⟨X, 4, none⟩ (.int .i64 m)) := Below.setCell (p := ⟨X, 4, none⟩) (Below.refl X W') (Nat.le_refl X) (.int .i64 m)
  have c : ∀ k j u, k < X → W'.cell? ⟨k, j, none⟩ = some u → (W'.setCell ⟨X, 4, none⟩ (.int .i64 m)).cell? ⟨k, j, none⟩ = some u := fun k j u hk hu => (hB.cell (p := ⟨k, j, none⟩) hk).trans hu
  have f : ∀ k j, k < X → W'.frozen? ⟨k, j, none⟩ = false → (W'.setCell ⟨X, 4, none⟩ (.int .i64 m)).frozen? ⟨k, j, none⟩ = false := fun k j hk hu => (hB.frozen (p := ⟨k, j, none⟩) hk).trans hu
  have s0 : w.heap.size < X := by omega
  exact ⟨D2.below.trans (hB.mono (by omega)), lX, by simpa using D2.szX, by simpa using D2.s0, by simpa using D2.s1, c _ _ _ lX D2.cv, c _ _ _ s0 D2.r0, c _ _ _ s0 D2.r1, c _ _ _ s0 D2.r2, c _ _ _ s0 D2.r3, c _ _ _ s0 D2.r4,
    f _ _ s0 D2.f0, f _ _ s0 D2.f1, f _ _ s0 D2.f2, f _ _ s0 D2.f3, f _ _ s0 D2.f4, (o 4 0 _ (by decide)).trans D2.x0, (o 4 1 _ (by decide)).trans D2.x1, (o 4 2 _ (by decide)).trans D2.x2, (o 4 3 _ (by decide)).trans D2.x3, World.cell?_setCell_same _ _ _ D2.x4,
    by simpa using D2.g0, by simpa using D2.g1, by simpa using D2.g2, by simpa using D2.g3, by simpa using D2.g4⟩
theorem find_pre (v : BitVec 64) (x : Nat) (f : Fm) (hF : fm x = f) (hf : findF v = some x) (w : World) (L : Laid w) :
    Calls Tryd.prog 30 #[.int .u64 (U v)] ((w.alloc (.cells #[.int .i64 0, .int .i64 0, .int .i64 0, .int .i64 0, .int .i64 0] 23)).alloc (.cells #[.int .u64 (U v)] 38)) fun e w1 => e = .returned (.tuple #[.int .i64 (x : Int), .string f.s, .bool true]) ∧ Below w.heap.size w w1 ∧ (∀ j, j < 5 → w1.cell? ⟨w.heap.size, j, none⟩ = some (.int .i64 0) ∧ w1.frozen? ⟨w.heap.size, j, none⟩ = false) ∧ w1.cell? ⟨w.heap.size + 1, 0, none⟩ = some (.int .u64 (U v)) ∧ w.heap.size + 1 < w1.heap.size := by
  have hb2 : Below w.heap.size w ((w.alloc (.cells #[.int .i64 0, .int .i64 0, .int .i64 0, .int .i64 0, .int .i64 0] 23)).alloc (.cells #[.int .u64 (U v)] 38)) := ((Below.refl w.heap.size w).alloc (Nat.le_refl _) _).alloc (by simp) _
  refine (find_c v _ (L.below hb2)).mono ?_
  rintro e w1 ⟨he, hb⟩
  rw [hf, foundV, hF] at he
  have := hb.size
  simp at this
  exact ⟨he, hb2.trans (hb.mono (by simp; omega)), fun j hj => ⟨(hb.cell (p := ⟨w.heap.size, j, none⟩) (by simp; omega)).trans (by match j, hj with | 0, _ => simp | 1, _ => simp | 2, _ => simp | 3, _ => simp | 4, _ => simp | n + 5, h => exact absurd h (by omega)), (hb.frozen (p := ⟨w.heap.size, j, none⟩) (by simp; omega)).trans (by rw [frozen?_alloc_cells, frozen?_alloc_cells]; simp [World.frozen?])⟩, (hb.cell (p := ⟨w.heap.size + 1, 0, none⟩) (by simp)).trans (by simp), by omega⟩
set_option maxHeartbeats 4000000 in
set_option maxRecDepth 100000 in
theorem walk_R (uv x d a b imm : Int) (w : World)
    (hU : IntKind.u64.wrap uv = uv)
    (hFi : Calls Tryd.prog 30 #[.int .u64 uv] ((w.alloc (.cells #[.int .i64 0, .int .i64 0, .int .i64 0, .int .i64 0, .int .i64 0] 23)).alloc (.cells #[.int .u64 uv] 38)) fun e w1 => e = .returned (.tuple #[.int .i64 x, .string ⟨#[82]⟩, .bool true]) ∧ Below w.heap.size w w1 ∧ (∀ j, j < 5 → w1.cell? ⟨w.heap.size, j, none⟩ = some (.int .i64 0) ∧ w1.frozen? ⟨w.heap.size, j, none⟩ = false) ∧ w1.cell? ⟨w.heap.size + 1, 0, none⟩ = some (.int .u64 uv) ∧ w.heap.size + 1 < w1.heap.size)
    (hH : ∀ w, Calls Tryd.prog 27 #[.string ⟨#[82]⟩] w fun e w' => e = .returned (.tuple #[.bool true, .bool true, .bool true]) ∧ Drawn0 w w')
    (hsh : ∀ w, Calls Tryd.prog 18 #[.int .i64 x] w fun e w' => e = .returned (.bool false) ∧ Drawn0 w w')
    (hr7 : ∀ k w, w.cell? ⟨k, 0, none⟩ = some (.int .u64 uv) → Calls Tryd.prog 31 #[.int .i64 7, .bool true, .pointer (some ⟨k, 0, none⟩)] w fun e w' => e = .returned (.int .i64 d) ∧ Drawn0 w w')
    (hr15 : ∀ k w, w.cell? ⟨k, 0, none⟩ = some (.int .u64 uv) → Calls Tryd.prog 31 #[.int .i64 15, .bool true, .pointer (some ⟨k, 0, none⟩)] w fun e w' => e = .returned (.int .i64 a) ∧ Drawn0 w w')
    (hr20 : ∀ k w, w.cell? ⟨k, 0, none⟩ = some (.int .u64 uv) → Calls Tryd.prog 31 #[.int .i64 20, .bool true, .pointer (some ⟨k, 0, none⟩)] w fun e w' => e = .returned (.int .i64 b) ∧ Drawn0 w w')
    : Calls Tryd.prog 16 #[.int .u32 uv] w fun e w' => e = .returned (.tuple #[insV x d a b 0, .int .i64 0]) ∧ Below w.heap.size w w' := by
  go_enter Tryd.func16, Tryd.ntmps16
  go_wp2_with (first | (go_at_call 30; refine hFi.mono ?_; rintro e w1 ⟨rfl, hb1, hblk, hcv, hs1⟩; have hq : ∀ o n, ((w1.alloc o).drewN n).cell? ⟨w.heap.size + 1, 0, none⟩ = some (.int .u64 uv) := fun o n => (World.cell?_alloc_lt w1 o ⟨w.heap.size + 1, 0, none⟩ hs1).trans hcv) | (go_at_call 27; refine (hH _).mono ?_; rintro e w' ⟨rfl, ⟨nd, rfl⟩⟩) | (go_at_call 31; with_reducible refine (hr7 _ _ (hq _ _)).mono ?_; rintro e w' ⟨rfl, ⟨nd7, rfl⟩⟩) | (go_at_call 31; with_reducible refine (hr15 _ _ (hq _ _)).mono ?_; rintro e w' ⟨rfl, ⟨nd15, rfl⟩⟩) | (go_at_call 31; with_reducible refine (hr20 _ _ (hq _ _)).mono ?_; rintro e w' ⟨rfl, ⟨nd20, rfl⟩⟩))
  have D := dbox (v := uv) x d a b (nd + nd7 + nd15 + nd20) hb1 hblk hcv hs1
  clear hb1 hblk hcv hq hFi hH hr7 hr15 hr20
  generalize (((((w1.alloc (.cells #[.int .i64 x, .int .i64 0, .int .i64 0, .int .i64 0, .int .i64 0] 23)).drewN (nd + nd7 + nd15 + nd20)).setCell ⟨w1.heap.size, 1, none⟩ (.int .i64 d)).setCell ⟨w1.heap.size, 2, none⟩ (.int .i64 a)).setCell ⟨w1.heap.size, 3, none⟩ (.int .i64 b)) = W at D ⊢
  generalize w1.heap.size = X at D hs1 ⊢
  clear hs1
  go_wp2_with (go_at_call 19; refine (parts_R _).mono ?_; rintro e w' ⟨rfl, hw⟩; replace hw := hw.symm; subst hw)
  refine wp_loop_rounds 1 ?_
  rw [rounds_succ]
  have k0 := D.ltX; have k1 := D.szX; have k2 := D.s0; have k3 := D.s1; have k4 := D.cv; have k5 := D.r0; have k6 := D.r1; have k7 := D.r2; have k8 := D.r3; have k9 := D.r4; have k10 := D.f0; have k11 := D.f1; have k12 := D.f2; have k13 := D.f3; have k14 := D.f4; have k15 := D.x0; have k16 := D.x1; have k17 := D.x2; have k18 := D.x3; have k19 := D.x4; have k20 := D.g0; have k21 := D.g1; have k22 := D.g2; have k23 := D.g3; have k24 := D.g4
  go_wp2_with (first | (go_at_call 18; refine (hsh _).mono ?_; rintro e w' ⟨rfl, ⟨nd3, rfl⟩⟩; have Dz := D.later (W' := W.drewN nd3) (pw_below_drewN (Below.refl _ _) _); have gg := set_five (w := W.drewN nd3) (fun j hj => ⟨_, Dz.res j hj⟩) (.int .i64 x) (.int .i64 d) (.int .i64 a) (.int .i64 b) (.int .i64 0); dsimp only at gg; obtain ⟨g0, g1, g2, g3, g4⟩ := gg))
  refine bodyPost_ret (v := .tuple #[insV x d a b 0, .int .i64 0]) (by simp [results, Tryd.results16, go_sem, g0, g1, g2, g3, g4]) rfl ⟨rfl, ?_⟩
  exact (((((Dz.below.setCell (Nat.le_refl _) _).setCell (Nat.le_refl _) _).setCell (Nat.le_refl _) _).setCell (Nat.le_refl _) _).setCell (Nat.le_refl _) _)
set_option maxHeartbeats 4000000 in
set_option maxRecDepth 100000 in
theorem walk_I (uv x d a b u0 n0 imm : Int) (w : World)
    (hU : IntKind.u64.wrap uv = uv)
    (hFi : Calls Tryd.prog 30 #[.int .u64 uv] ((w.alloc (.cells #[.int .i64 0, .int .i64 0, .int .i64 0, .int .i64 0, .int .i64 0] 23)).alloc (.cells #[.int .u64 uv] 38)) fun e w1 => e = .returned (.tuple #[.int .i64 x, .string ⟨#[73]⟩, .bool true]) ∧ Below w.heap.size w w1 ∧ (∀ j, j < 5 → w1.cell? ⟨w.heap.size, j, none⟩ = some (.int .i64 0) ∧ w1.frozen? ⟨w.heap.size, j, none⟩ = false) ∧ w1.cell? ⟨w.heap.size + 1, 0, none⟩ = some (.int .u64 uv) ∧ w.heap.size + 1 < w1.heap.size)
    (hH : ∀ w, Calls Tryd.prog 27 #[.string ⟨#[73]⟩] w fun e w' => e = .returned (.tuple #[.bool true, .bool true, .bool false]) ∧ Drawn0 w w')
    (hsh : ∀ w, Calls Tryd.prog 18 #[.int .i64 x] w fun e w' => e = .returned (.bool false) ∧ Drawn0 w w')
    (hr7 : ∀ k w, w.cell? ⟨k, 0, none⟩ = some (.int .u64 uv) → Calls Tryd.prog 31 #[.int .i64 7, .bool true, .pointer (some ⟨k, 0, none⟩)] w fun e w' => e = .returned (.int .i64 d) ∧ Drawn0 w w')
    (hr15 : ∀ k w, w.cell? ⟨k, 0, none⟩ = some (.int .u64 uv) → Calls Tryd.prog 31 #[.int .i64 15, .bool true, .pointer (some ⟨k, 0, none⟩)] w fun e w' => e = .returned (.int .i64 a) ∧ Drawn0 w w')
    (hr20 : ∀ k w, w.cell? ⟨k, 0, none⟩ = some (.int .u64 uv) → Calls Tryd.prog 31 #[.int .i64 20, .bool false, .pointer (some ⟨k, 0, none⟩)] w fun e w' => e = .returned (.int .i64 b) ∧ Drawn0 w w')
    (hfl0 : ∀ w, Calls Tryd.prog 20 #[.int .u64 uv, .int .i64 20, .int .i64 12] w fun e w' => e = .returned (.tuple #[.int .u64 u0, .bool true]) ∧ Drawn0 w w')
    (hpt0 : ∀ w, Calls Tryd.prog 21 #[.int .u64 0, .int .i64 0, .int .i64 12, .int .u64 u0] w fun e w' => e = .returned (.tuple #[.int .u64 n0, .bool true]) ∧ Drawn0 w w')
    (hlo : ∀ w, Calls Tryd.prog 33 #[.string ⟨#[73]⟩] w fun e w' => e = .returned (.int .i64 12) ∧ Below w.heap.size w w')
    (hsg : ∀ w, Calls Tryd.prog 32 #[.int .u64 n0, .int .i64 12] w fun e w' => e = .returned (.int .i64 imm) ∧ Drawn0 w w')
    : Calls Tryd.prog 16 #[.int .u32 uv] w fun e w' => e = .returned (.tuple #[insV x d a b imm, .int .i64 0]) ∧ Below w.heap.size w w' := by
  go_enter Tryd.func16, Tryd.ntmps16
  go_wp2_with (first | (go_at_call 30; refine hFi.mono ?_; rintro e w1 ⟨rfl, hb1, hblk, hcv, hs1⟩; have hq : ∀ o n, ((w1.alloc o).drewN n).cell? ⟨w.heap.size + 1, 0, none⟩ = some (.int .u64 uv) := fun o n => (World.cell?_alloc_lt w1 o ⟨w.heap.size + 1, 0, none⟩ hs1).trans hcv) | (go_at_call 27; refine (hH _).mono ?_; rintro e w' ⟨rfl, ⟨nd, rfl⟩⟩) | (go_at_call 31; with_reducible refine (hr7 _ _ (hq _ _)).mono ?_; rintro e w' ⟨rfl, ⟨nd7, rfl⟩⟩) | (go_at_call 31; with_reducible refine (hr15 _ _ (hq _ _)).mono ?_; rintro e w' ⟨rfl, ⟨nd15, rfl⟩⟩) | (go_at_call 31; with_reducible refine (hr20 _ _ (hq _ _)).mono ?_; rintro e w' ⟨rfl, ⟨nd20, rfl⟩⟩))
  have D := dbox (v := uv) x d a b (nd + nd7 + nd15 + nd20) hb1 hblk hcv hs1
  clear hb1 hblk hcv hq hFi hH hr7 hr15 hr20
  generalize (((((w1.alloc (.cells #[.int .i64 x, .int .i64 0, .int .i64 0, .int .i64 0, .int .i64 0] 23)).drewN (nd + nd7 + nd15 + nd20)).setCell ⟨w1.heap.size, 1, none⟩ (.int .i64 d)).setCell ⟨w1.heap.size, 2, none⟩ (.int .i64 a)).setCell ⟨w1.heap.size, 3, none⟩ (.int .i64 b)) = W at D ⊢
  generalize w1.heap.size = X at D hs1 ⊢
  clear hs1
  have k0 := D.ltX; have k1 := D.szX; have k2 := D.s0; have k3 := D.s1; have k4 := D.cv
  go_wp2_with (go_at_call 19; refine (parts_I _).mono ?_; rintro e w' ⟨rfl, rfl⟩)
  refine wp_loop_rounds 2 ?_
  rw [rounds_succ]
  go_wp2_with (first | (go_at_call 20; refine (hfl0 _).mono ?_; rintro e w' ⟨rfl, ⟨nd, rfl⟩⟩) | (go_at_call 21; refine (hpt0 _).mono ?_; rintro e w' ⟨rfl, ⟨nd2, rfl⟩⟩))
  rw [rounds_succ]
  clear k0 k1 k2 k3 k4
  refine D.go (by repeat (first | exact Below.refl _ _ | apply below_alloc | apply pw_below_drewN | apply below_drew)) ?_
  clear D; intro W D
  have k0 := D.ltX; have k1 := D.szX; have k2 := D.s0; have k3 := D.s1; have k4 := D.cv; have k5 := D.r0; have k6 := D.r1; have k7 := D.r2; have k8 := D.r3; have k9 := D.r4; have k10 := D.f0; have k11 := D.f1; have k12 := D.f2; have k13 := D.f3; have k14 := D.f4; have k15 := D.x0; have k16 := D.x1; have k17 := D.x2; have k18 := D.x3; have k19 := D.x4; have k20 := D.g0; have k21 := D.g1; have k22 := D.g2; have k23 := D.g3; have k24 := D.g4
  go_wp2_with (first | (go_at_call 18; refine (hsh _).mono ?_; rintro e w' ⟨rfl, ⟨nd3, rfl⟩⟩) | (go_at_call 33; refine (hlo _).mono ?_; rintro e W2 ⟨rfl, hb2⟩; clear k0 k1 k2 k3 k4 k5 k6 k7 k8 k9 k10 k11 k12 k13 k14 k15 k16 k17 k18 k19 k20 k21 k22 k23 k24) | (go_at_call 32; refine (hsg _).mono ?_; rintro e w' ⟨rfl, ⟨nd5, rfl⟩⟩; have Dy := D.later (W' := W2.drewN nd5) (pw_below_drewN ((pw_below_drewN (Below.refl _ _) _).trans hb2) _); have Dz := after_long D (W' := W2.drewN nd5) (pw_below_drewN ((pw_below_drewN (Below.refl _ _) _).trans hb2) _) imm; have y0 := Dy.ltX; have y1 := Dy.szX; have y2 := Dy.s0; have y3 := Dy.s1; have y4 := Dy.cv; have y5 := Dy.r0; have y6 := Dy.r1; have y7 := Dy.r2; have y8 := Dy.r3; have y9 := Dy.r4; have y10 := Dy.f0; have y11 := Dy.f1; have y12 := Dy.f2; have y13 := Dy.f3; have y14 := Dy.f4; have y15 := Dy.x0; have y16 := Dy.x1; have y17 := Dy.x2; have y18 := Dy.x3; have y19 := Dy.x4; have y20 := Dy.g0; have y21 := Dy.g1; have y22 := Dy.g2; have y23 := Dy.g3; have y24 := Dy.g4; have z0 := Dz.ltX; have z1 := Dz.szX; have z2 := Dz.s0; have z3 := Dz.s1; have z4 := Dz.cv; have z5 := Dz.r0; have z6 := Dz.r1; have z7 := Dz.r2; have z8 := Dz.r3; have z9 := Dz.r4; have z10 := Dz.f0; have z11 := Dz.f1; have z12 := Dz.f2; have z13 := Dz.f3; have z14 := Dz.f4; have z15 := Dz.x0; have z16 := Dz.x1; have z17 := Dz.x2; have z18 := Dz.x3; have z19 := Dz.x4; have z20 := Dz.g0; have z21 := Dz.g1; have z22 := Dz.g2; have z23 := Dz.g3; have z24 := Dz.g4; have gg := set_five (w := (W2.drewN nd5).setCell ⟨X, 4, none⟩ (.int .i64 imm)) (fun j hj => ⟨_, Dz.res j hj⟩) (.int .i64 x) (.int .i64 d) (.int .i64 a) (.int .i64 b) (.int .i64 imm); dsimp only at gg; obtain ⟨g0, g1, g2, g3, g4⟩ := gg))
  refine bodyPost_ret (v := .tuple #[insV x d a b imm, .int .i64 0]) (by simp [results, Tryd.results16, go_sem, g0, g1, g2, g3, g4]) rfl ⟨rfl, ?_⟩
  exact (((((Dz.below.setCell (Nat.le_refl _) _).setCell (Nat.le_refl _) _).setCell (Nat.le_refl _) _).setCell (Nat.le_refl _) _).setCell (Nat.le_refl _) _)
set_option maxHeartbeats 4000000 in
set_option maxRecDepth 100000 in
theorem walk_Ish (uv x d a b u0 n0 n9 imm : Int) (w : World)
    (hU : IntKind.u64.wrap uv = uv)
    (hFi : Calls Tryd.prog 30 #[.int .u64 uv] ((w.alloc (.cells #[.int .i64 0, .int .i64 0, .int .i64 0, .int .i64 0, .int .i64 0] 23)).alloc (.cells #[.int .u64 uv] 38)) fun e w1 => e = .returned (.tuple #[.int .i64 x, .string ⟨#[73]⟩, .bool true]) ∧ Below w.heap.size w w1 ∧ (∀ j, j < 5 → w1.cell? ⟨w.heap.size, j, none⟩ = some (.int .i64 0) ∧ w1.frozen? ⟨w.heap.size, j, none⟩ = false) ∧ w1.cell? ⟨w.heap.size + 1, 0, none⟩ = some (.int .u64 uv) ∧ w.heap.size + 1 < w1.heap.size)
    (hH : ∀ w, Calls Tryd.prog 27 #[.string ⟨#[73]⟩] w fun e w' => e = .returned (.tuple #[.bool true, .bool true, .bool false]) ∧ Drawn0 w w')
    (hsh : ∀ w, Calls Tryd.prog 18 #[.int .i64 x] w fun e w' => e = .returned (.bool true) ∧ Drawn0 w w')
    (hr7 : ∀ k w, w.cell? ⟨k, 0, none⟩ = some (.int .u64 uv) → Calls Tryd.prog 31 #[.int .i64 7, .bool true, .pointer (some ⟨k, 0, none⟩)] w fun e w' => e = .returned (.int .i64 d) ∧ Drawn0 w w')
    (hr15 : ∀ k w, w.cell? ⟨k, 0, none⟩ = some (.int .u64 uv) → Calls Tryd.prog 31 #[.int .i64 15, .bool true, .pointer (some ⟨k, 0, none⟩)] w fun e w' => e = .returned (.int .i64 a) ∧ Drawn0 w w')
    (hr20 : ∀ k w, w.cell? ⟨k, 0, none⟩ = some (.int .u64 uv) → Calls Tryd.prog 31 #[.int .i64 20, .bool false, .pointer (some ⟨k, 0, none⟩)] w fun e w' => e = .returned (.int .i64 b) ∧ Drawn0 w w')
    (hfl0 : ∀ w, Calls Tryd.prog 20 #[.int .u64 uv, .int .i64 20, .int .i64 12] w fun e w' => e = .returned (.tuple #[.int .u64 u0, .bool true]) ∧ Drawn0 w w')
    (hpt0 : ∀ w, Calls Tryd.prog 21 #[.int .u64 0, .int .i64 0, .int .i64 12, .int .u64 u0] w fun e w' => e = .returned (.tuple #[.int .u64 n0, .bool true]) ∧ Drawn0 w w')
    (hfl9 : ∀ w, Calls Tryd.prog 20 #[.int .u64 n0, .int .i64 0, .int .i64 6] w fun e w' => e = .returned (.tuple #[.int .u64 n9, .bool true]) ∧ Drawn0 w w')
    (hlo : ∀ w, Calls Tryd.prog 33 #[.string ⟨#[73]⟩] w fun e w' => e = .returned (.int .i64 12) ∧ Below w.heap.size w w')
    (hsg : ∀ w, Calls Tryd.prog 32 #[.int .u64 n9, .int .i64 12] w fun e w' => e = .returned (.int .i64 imm) ∧ Drawn0 w w')
    : Calls Tryd.prog 16 #[.int .u32 uv] w fun e w' => e = .returned (.tuple #[insV x d a b imm, .int .i64 0]) ∧ Below w.heap.size w w' := by
  go_enter Tryd.func16, Tryd.ntmps16
  go_wp2_with (first | (go_at_call 30; refine hFi.mono ?_; rintro e w1 ⟨rfl, hb1, hblk, hcv, hs1⟩; have hq : ∀ o n, ((w1.alloc o).drewN n).cell? ⟨w.heap.size + 1, 0, none⟩ = some (.int .u64 uv) := fun o n => (World.cell?_alloc_lt w1 o ⟨w.heap.size + 1, 0, none⟩ hs1).trans hcv) | (go_at_call 27; refine (hH _).mono ?_; rintro e w' ⟨rfl, ⟨nd, rfl⟩⟩) | (go_at_call 31; with_reducible refine (hr7 _ _ (hq _ _)).mono ?_; rintro e w' ⟨rfl, ⟨nd7, rfl⟩⟩) | (go_at_call 31; with_reducible refine (hr15 _ _ (hq _ _)).mono ?_; rintro e w' ⟨rfl, ⟨nd15, rfl⟩⟩) | (go_at_call 31; with_reducible refine (hr20 _ _ (hq _ _)).mono ?_; rintro e w' ⟨rfl, ⟨nd20, rfl⟩⟩))
  have D := dbox (v := uv) x d a b (nd + nd7 + nd15 + nd20) hb1 hblk hcv hs1
  clear hb1 hblk hcv hq hFi hH hr7 hr15 hr20
  generalize (((((w1.alloc (.cells #[.int .i64 x, .int .i64 0, .int .i64 0, .int .i64 0, .int .i64 0] 23)).drewN (nd + nd7 + nd15 + nd20)).setCell ⟨w1.heap.size, 1, none⟩ (.int .i64 d)).setCell ⟨w1.heap.size, 2, none⟩ (.int .i64 a)).setCell ⟨w1.heap.size, 3, none⟩ (.int .i64 b)) = W at D ⊢
  generalize w1.heap.size = X at D hs1 ⊢
  clear hs1
  have k0 := D.ltX; have k1 := D.szX; have k2 := D.s0; have k3 := D.s1; have k4 := D.cv
  go_wp2_with (go_at_call 19; refine (parts_I _).mono ?_; rintro e w' ⟨rfl, rfl⟩)
  refine wp_loop_rounds 2 ?_
  rw [rounds_succ]
  go_wp2_with (first | (go_at_call 20; refine (hfl0 _).mono ?_; rintro e w' ⟨rfl, ⟨nd, rfl⟩⟩) | (go_at_call 21; refine (hpt0 _).mono ?_; rintro e w' ⟨rfl, ⟨nd2, rfl⟩⟩))
  rw [rounds_succ]
  clear k0 k1 k2 k3 k4
  refine D.go (by repeat (first | exact Below.refl _ _ | apply below_alloc | apply pw_below_drewN | apply below_drew)) ?_
  clear D; intro W D
  have k0 := D.ltX; have k1 := D.szX; have k2 := D.s0; have k3 := D.s1; have k4 := D.cv; have k5 := D.r0; have k6 := D.r1; have k7 := D.r2; have k8 := D.r3; have k9 := D.r4; have k10 := D.f0; have k11 := D.f1; have k12 := D.f2; have k13 := D.f3; have k14 := D.f4; have k15 := D.x0; have k16 := D.x1; have k17 := D.x2; have k18 := D.x3; have k19 := D.x4; have k20 := D.g0; have k21 := D.g1; have k22 := D.g2; have k23 := D.g3; have k24 := D.g4
  go_wp2_with (first | (go_at_call 18; refine (hsh _).mono ?_; rintro e w' ⟨rfl, ⟨nd3, rfl⟩⟩) | (go_at_call 20; refine (hfl9 _).mono ?_; rintro e w' ⟨rfl, ⟨nd4, rfl⟩⟩) | (go_at_call 33; refine (hlo _).mono ?_; rintro e W2 ⟨rfl, hb2⟩; clear k0 k1 k2 k3 k4 k5 k6 k7 k8 k9 k10 k11 k12 k13 k14 k15 k16 k17 k18 k19 k20 k21 k22 k23 k24) | (go_at_call 32; refine (hsg _).mono ?_; rintro e w' ⟨rfl, ⟨nd5, rfl⟩⟩; have Dy := D.later (W' := W2.drewN nd5) (pw_below_drewN ((pw_below_drewN (Below.refl _ _) _).trans hb2) _); have Dz := after_long D (W' := W2.drewN nd5) (pw_below_drewN ((pw_below_drewN (Below.refl _ _) _).trans hb2) _) imm; have y0 := Dy.ltX; have y1 := Dy.szX; have y2 := Dy.s0; have y3 := Dy.s1; have y4 := Dy.cv; have y5 := Dy.r0; have y6 := Dy.r1; have y7 := Dy.r2; have y8 := Dy.r3; have y9 := Dy.r4; have y10 := Dy.f0; have y11 := Dy.f1; have y12 := Dy.f2; have y13 := Dy.f3; have y14 := Dy.f4; have y15 := Dy.x0; have y16 := Dy.x1; have y17 := Dy.x2; have y18 := Dy.x3; have y19 := Dy.x4; have y20 := Dy.g0; have y21 := Dy.g1; have y22 := Dy.g2; have y23 := Dy.g3; have y24 := Dy.g4; have z0 := Dz.ltX; have z1 := Dz.szX; have z2 := Dz.s0; have z3 := Dz.s1; have z4 := Dz.cv; have z5 := Dz.r0; have z6 := Dz.r1; have z7 := Dz.r2; have z8 := Dz.r3; have z9 := Dz.r4; have z10 := Dz.f0; have z11 := Dz.f1; have z12 := Dz.f2; have z13 := Dz.f3; have z14 := Dz.f4; have z15 := Dz.x0; have z16 := Dz.x1; have z17 := Dz.x2; have z18 := Dz.x3; have z19 := Dz.x4; have z20 := Dz.g0; have z21 := Dz.g1; have z22 := Dz.g2; have z23 := Dz.g3; have z24 := Dz.g4; have gg := set_five (w := (W2.drewN nd5).setCell ⟨X, 4, none⟩ (.int .i64 imm)) (fun j hj => ⟨_, Dz.res j hj⟩) (.int .i64 x) (.int .i64 d) (.int .i64 a) (.int .i64 b) (.int .i64 imm); dsimp only at gg; obtain ⟨g0, g1, g2, g3, g4⟩ := gg))
  refine bodyPost_ret (v := .tuple #[insV x d a b imm, .int .i64 0]) (by simp [results, Tryd.results16, go_sem, g0, g1, g2, g3, g4]) rfl ⟨rfl, ?_⟩
  exact (((((Dz.below.setCell (Nat.le_refl _) _).setCell (Nat.le_refl _) _).setCell (Nat.le_refl _) _).setCell (Nat.le_refl _) _).setCell (Nat.le_refl _) _)
set_option maxHeartbeats 4000000 in
set_option maxRecDepth 100000 in
theorem walk_S (uv x d a b u0 u1 n0 n1 imm : Int) (w : World)
    (hU : IntKind.u64.wrap uv = uv)
    (hFi : Calls Tryd.prog 30 #[.int .u64 uv] ((w.alloc (.cells #[.int .i64 0, .int .i64 0, .int .i64 0, .int .i64 0, .int .i64 0] 23)).alloc (.cells #[.int .u64 uv] 38)) fun e w1 => e = .returned (.tuple #[.int .i64 x, .string ⟨#[83]⟩, .bool true]) ∧ Below w.heap.size w w1 ∧ (∀ j, j < 5 → w1.cell? ⟨w.heap.size, j, none⟩ = some (.int .i64 0) ∧ w1.frozen? ⟨w.heap.size, j, none⟩ = false) ∧ w1.cell? ⟨w.heap.size + 1, 0, none⟩ = some (.int .u64 uv) ∧ w.heap.size + 1 < w1.heap.size)
    (hH : ∀ w, Calls Tryd.prog 27 #[.string ⟨#[83]⟩] w fun e w' => e = .returned (.tuple #[.bool false, .bool true, .bool true]) ∧ Drawn0 w w')
    (hsh : ∀ w, Calls Tryd.prog 18 #[.int .i64 x] w fun e w' => e = .returned (.bool false) ∧ Drawn0 w w')
    (hr7 : ∀ k w, w.cell? ⟨k, 0, none⟩ = some (.int .u64 uv) → Calls Tryd.prog 31 #[.int .i64 7, .bool false, .pointer (some ⟨k, 0, none⟩)] w fun e w' => e = .returned (.int .i64 d) ∧ Drawn0 w w')
    (hr15 : ∀ k w, w.cell? ⟨k, 0, none⟩ = some (.int .u64 uv) → Calls Tryd.prog 31 #[.int .i64 15, .bool true, .pointer (some ⟨k, 0, none⟩)] w fun e w' => e = .returned (.int .i64 a) ∧ Drawn0 w w')
    (hr20 : ∀ k w, w.cell? ⟨k, 0, none⟩ = some (.int .u64 uv) → Calls Tryd.prog 31 #[.int .i64 20, .bool true, .pointer (some ⟨k, 0, none⟩)] w fun e w' => e = .returned (.int .i64 b) ∧ Drawn0 w w')
    (hfl0 : ∀ w, Calls Tryd.prog 20 #[.int .u64 uv, .int .i64 7, .int .i64 5] w fun e w' => e = .returned (.tuple #[.int .u64 u0, .bool true]) ∧ Drawn0 w w')
    (hpt0 : ∀ w, Calls Tryd.prog 21 #[.int .u64 0, .int .i64 0, .int .i64 5, .int .u64 u0] w fun e w' => e = .returned (.tuple #[.int .u64 n0, .bool true]) ∧ Drawn0 w w')
    (hfl1 : ∀ w, Calls Tryd.prog 20 #[.int .u64 uv, .int .i64 25, .int .i64 7] w fun e w' => e = .returned (.tuple #[.int .u64 u1, .bool true]) ∧ Drawn0 w w')
    (hpt1 : ∀ w, Calls Tryd.prog 21 #[.int .u64 n0, .int .i64 5, .int .i64 7, .int .u64 u1] w fun e w' => e = .returned (.tuple #[.int .u64 n1, .bool true]) ∧ Drawn0 w w')
    (hlo : ∀ w, Calls Tryd.prog 33 #[.string ⟨#[83]⟩] w fun e w' => e = .returned (.int .i64 12) ∧ Below w.heap.size w w')
    (hsg : ∀ w, Calls Tryd.prog 32 #[.int .u64 n1, .int .i64 12] w fun e w' => e = .returned (.int .i64 imm) ∧ Drawn0 w w')
    : Calls Tryd.prog 16 #[.int .u32 uv] w fun e w' => e = .returned (.tuple #[insV x d a b imm, .int .i64 0]) ∧ Below w.heap.size w w' := by
  go_enter Tryd.func16, Tryd.ntmps16
  go_wp2_with (first | (go_at_call 30; refine hFi.mono ?_; rintro e w1 ⟨rfl, hb1, hblk, hcv, hs1⟩; have hq : ∀ o n, ((w1.alloc o).drewN n).cell? ⟨w.heap.size + 1, 0, none⟩ = some (.int .u64 uv) := fun o n => (World.cell?_alloc_lt w1 o ⟨w.heap.size + 1, 0, none⟩ hs1).trans hcv) | (go_at_call 27; refine (hH _).mono ?_; rintro e w' ⟨rfl, ⟨nd, rfl⟩⟩) | (go_at_call 31; with_reducible refine (hr7 _ _ (hq _ _)).mono ?_; rintro e w' ⟨rfl, ⟨nd7, rfl⟩⟩) | (go_at_call 31; with_reducible refine (hr15 _ _ (hq _ _)).mono ?_; rintro e w' ⟨rfl, ⟨nd15, rfl⟩⟩) | (go_at_call 31; with_reducible refine (hr20 _ _ (hq _ _)).mono ?_; rintro e w' ⟨rfl, ⟨nd20, rfl⟩⟩))
  have D := dbox (v := uv) x d a b (nd + nd7 + nd15 + nd20) hb1 hblk hcv hs1
  clear hb1 hblk hcv hq hFi hH hr7 hr15 hr20
  generalize (((((w1.alloc (.cells #[.int .i64 x, .int .i64 0, .int .i64 0, .int .i64 0, .int .i64 0] 23)).drewN (nd + nd7 + nd15 + nd20)).setCell ⟨w1.heap.size, 1, none⟩ (.int .i64 d)).setCell ⟨w1.heap.size, 2, none⟩ (.int .i64 a)).setCell ⟨w1.heap.size, 3, none⟩ (.int .i64 b)) = W at D ⊢
  generalize w1.heap.size = X at D hs1 ⊢
  clear hs1
  have k0 := D.ltX; have k1 := D.szX; have k2 := D.s0; have k3 := D.s1; have k4 := D.cv
  go_wp2_with (go_at_call 19; refine (parts_S _).mono ?_; rintro e w' ⟨rfl, rfl⟩)
  refine wp_loop_rounds 3 ?_
  rw [rounds_succ]
  go_wp2_with (first | (go_at_call 20; refine (hfl0 _).mono ?_; rintro e w' ⟨rfl, ⟨nd, rfl⟩⟩) | (go_at_call 21; refine (hpt0 _).mono ?_; rintro e w' ⟨rfl, ⟨nd2, rfl⟩⟩))
  rw [rounds_succ]
  go_wp2_with (first | (go_at_call 20; refine (hfl1 _).mono ?_; rintro e w' ⟨rfl, ⟨nd, rfl⟩⟩) | (go_at_call 21; refine (hpt1 _).mono ?_; rintro e w' ⟨rfl, ⟨nd2, rfl⟩⟩))
  rw [rounds_succ]
  clear k0 k1 k2 k3 k4
  refine D.go (by repeat (first | exact Below.refl _ _ | apply below_alloc | apply pw_below_drewN | apply below_drew)) ?_
  clear D; intro W D
  have k0 := D.ltX; have k1 := D.szX; have k2 := D.s0; have k3 := D.s1; have k4 := D.cv; have k5 := D.r0; have k6 := D.r1; have k7 := D.r2; have k8 := D.r3; have k9 := D.r4; have k10 := D.f0; have k11 := D.f1; have k12 := D.f2; have k13 := D.f3; have k14 := D.f4; have k15 := D.x0; have k16 := D.x1; have k17 := D.x2; have k18 := D.x3; have k19 := D.x4; have k20 := D.g0; have k21 := D.g1; have k22 := D.g2; have k23 := D.g3; have k24 := D.g4
  go_wp2_with (first | (go_at_call 18; refine (hsh _).mono ?_; rintro e w' ⟨rfl, ⟨nd3, rfl⟩⟩) | (go_at_call 33; refine (hlo _).mono ?_; rintro e W2 ⟨rfl, hb2⟩; clear k0 k1 k2 k3 k4 k5 k6 k7 k8 k9 k10 k11 k12 k13 k14 k15 k16 k17 k18 k19 k20 k21 k22 k23 k24) | (go_at_call 32; refine (hsg _).mono ?_; rintro e w' ⟨rfl, ⟨nd5, rfl⟩⟩; have Dy := D.later (W' := W2.drewN nd5) (pw_below_drewN ((pw_below_drewN (Below.refl _ _) _).trans hb2) _); have Dz := after_long D (W' := W2.drewN nd5) (pw_below_drewN ((pw_below_drewN (Below.refl _ _) _).trans hb2) _) imm; have y0 := Dy.ltX; have y1 := Dy.szX; have y2 := Dy.s0; have y3 := Dy.s1; have y4 := Dy.cv; have y5 := Dy.r0; have y6 := Dy.r1; have y7 := Dy.r2; have y8 := Dy.r3; have y9 := Dy.r4; have y10 := Dy.f0; have y11 := Dy.f1; have y12 := Dy.f2; have y13 := Dy.f3; have y14 := Dy.f4; have y15 := Dy.x0; have y16 := Dy.x1; have y17 := Dy.x2; have y18 := Dy.x3; have y19 := Dy.x4; have y20 := Dy.g0; have y21 := Dy.g1; have y22 := Dy.g2; have y23 := Dy.g3; have y24 := Dy.g4; have z0 := Dz.ltX; have z1 := Dz.szX; have z2 := Dz.s0; have z3 := Dz.s1; have z4 := Dz.cv; have z5 := Dz.r0; have z6 := Dz.r1; have z7 := Dz.r2; have z8 := Dz.r3; have z9 := Dz.r4; have z10 := Dz.f0; have z11 := Dz.f1; have z12 := Dz.f2; have z13 := Dz.f3; have z14 := Dz.f4; have z15 := Dz.x0; have z16 := Dz.x1; have z17 := Dz.x2; have z18 := Dz.x3; have z19 := Dz.x4; have z20 := Dz.g0; have z21 := Dz.g1; have z22 := Dz.g2; have z23 := Dz.g3; have z24 := Dz.g4; have gg := set_five (w := (W2.drewN nd5).setCell ⟨X, 4, none⟩ (.int .i64 imm)) (fun j hj => ⟨_, Dz.res j hj⟩) (.int .i64 x) (.int .i64 d) (.int .i64 a) (.int .i64 b) (.int .i64 imm); dsimp only at gg; obtain ⟨g0, g1, g2, g3, g4⟩ := gg))
  refine bodyPost_ret (v := .tuple #[insV x d a b imm, .int .i64 0]) (by simp [results, Tryd.results16, go_sem, g0, g1, g2, g3, g4]) rfl ⟨rfl, ?_⟩
  exact (((((Dz.below.setCell (Nat.le_refl _) _).setCell (Nat.le_refl _) _).setCell (Nat.le_refl _) _).setCell (Nat.le_refl _) _).setCell (Nat.le_refl _) _)
set_option maxHeartbeats 4000000 in
set_option maxRecDepth 100000 in
theorem walk_B (uv x d a b u0 u1 u2 u3 n0 n1 n2 n3 imm : Int) (w : World)
    (hU : IntKind.u64.wrap uv = uv)
    (hFi : Calls Tryd.prog 30 #[.int .u64 uv] ((w.alloc (.cells #[.int .i64 0, .int .i64 0, .int .i64 0, .int .i64 0, .int .i64 0] 23)).alloc (.cells #[.int .u64 uv] 38)) fun e w1 => e = .returned (.tuple #[.int .i64 x, .string ⟨#[66]⟩, .bool true]) ∧ Below w.heap.size w w1 ∧ (∀ j, j < 5 → w1.cell? ⟨w.heap.size, j, none⟩ = some (.int .i64 0) ∧ w1.frozen? ⟨w.heap.size, j, none⟩ = false) ∧ w1.cell? ⟨w.heap.size + 1, 0, none⟩ = some (.int .u64 uv) ∧ w.heap.size + 1 < w1.heap.size)
    (hH : ∀ w, Calls Tryd.prog 27 #[.string ⟨#[66]⟩] w fun e w' => e = .returned (.tuple #[.bool false, .bool true, .bool true]) ∧ Drawn0 w w')
    (hsh : ∀ w, Calls Tryd.prog 18 #[.int .i64 x] w fun e w' => e = .returned (.bool false) ∧ Drawn0 w w')
    (hr7 : ∀ k w, w.cell? ⟨k, 0, none⟩ = some (.int .u64 uv) → Calls Tryd.prog 31 #[.int .i64 7, .bool false, .pointer (some ⟨k, 0, none⟩)] w fun e w' => e = .returned (.int .i64 d) ∧ Drawn0 w w')
    (hr15 : ∀ k w, w.cell? ⟨k, 0, none⟩ = some (.int .u64 uv) → Calls Tryd.prog 31 #[.int .i64 15, .bool true, .pointer (some ⟨k, 0, none⟩)] w fun e w' => e = .returned (.int .i64 a) ∧ Drawn0 w w')
    (hr20 : ∀ k w, w.cell? ⟨k, 0, none⟩ = some (.int .u64 uv) → Calls Tryd.prog 31 #[.int .i64 20, .bool true, .pointer (some ⟨k, 0, none⟩)] w fun e w' => e = .returned (.int .i64 b) ∧ Drawn0 w w')
    (hfl0 : ∀ w, Calls Tryd.prog 20 #[.int .u64 uv, .int .i64 8, .int .i64 4] w fun e w' => e = .returned (.tuple #[.int .u64 u0, .bool true]) ∧ Drawn0 w w')
    (hpt0 : ∀ w, Calls Tryd.prog 21 #[.int .u64 0, .int .i64 1, .int .i64 4, .int .u64 u0] w fun e w' => e = .returned (.tuple #[.int .u64 n0, .bool true]) ∧ Drawn0 w w')
    (hfl1 : ∀ w, Calls Tryd.prog 20 #[.int .u64 uv, .int .i64 25, .int .i64 6] w fun e w' => e = .returned (.tuple #[.int .u64 u1, .bool true]) ∧ Drawn0 w w')
    (hpt1 : ∀ w, Calls Tryd.prog 21 #[.int .u64 n0, .int .i64 5, .int .i64 6, .int .u64 u1] w fun e w' => e = .returned (.tuple #[.int .u64 n1, .bool true]) ∧ Drawn0 w w')
    (hfl2 : ∀ w, Calls Tryd.prog 20 #[.int .u64 uv, .int .i64 7, .int .i64 1] w fun e w' => e = .returned (.tuple #[.int .u64 u2, .bool true]) ∧ Drawn0 w w')
    (hpt2 : ∀ w, Calls Tryd.prog 21 #[.int .u64 n1, .int .i64 11, .int .i64 1, .int .u64 u2] w fun e w' => e = .returned (.tuple #[.int .u64 n2, .bool true]) ∧ Drawn0 w w')
    (hfl3 : ∀ w, Calls Tryd.prog 20 #[.int .u64 uv, .int .i64 31, .int .i64 1] w fun e w' => e = .returned (.tuple #[.int .u64 u3, .bool true]) ∧ Drawn0 w w')
    (hpt3 : ∀ w, Calls Tryd.prog 21 #[.int .u64 n2, .int .i64 12, .int .i64 1, .int .u64 u3] w fun e w' => e = .returned (.tuple #[.int .u64 n3, .bool true]) ∧ Drawn0 w w')
    (hlo : ∀ w, Calls Tryd.prog 33 #[.string ⟨#[66]⟩] w fun e w' => e = .returned (.int .i64 13) ∧ Below w.heap.size w w')
    (hsg : ∀ w, Calls Tryd.prog 32 #[.int .u64 n3, .int .i64 13] w fun e w' => e = .returned (.int .i64 imm) ∧ Drawn0 w w')
    : Calls Tryd.prog 16 #[.int .u32 uv] w fun e w' => e = .returned (.tuple #[insV x d a b imm, .int .i64 0]) ∧ Below w.heap.size w w' := by
  go_enter Tryd.func16, Tryd.ntmps16
  go_wp2_with (first | (go_at_call 30; refine hFi.mono ?_; rintro e w1 ⟨rfl, hb1, hblk, hcv, hs1⟩; have hq : ∀ o n, ((w1.alloc o).drewN n).cell? ⟨w.heap.size + 1, 0, none⟩ = some (.int .u64 uv) := fun o n => (World.cell?_alloc_lt w1 o ⟨w.heap.size + 1, 0, none⟩ hs1).trans hcv) | (go_at_call 27; refine (hH _).mono ?_; rintro e w' ⟨rfl, ⟨nd, rfl⟩⟩) | (go_at_call 31; with_reducible refine (hr7 _ _ (hq _ _)).mono ?_; rintro e w' ⟨rfl, ⟨nd7, rfl⟩⟩) | (go_at_call 31; with_reducible refine (hr15 _ _ (hq _ _)).mono ?_; rintro e w' ⟨rfl, ⟨nd15, rfl⟩⟩) | (go_at_call 31; with_reducible refine (hr20 _ _ (hq _ _)).mono ?_; rintro e w' ⟨rfl, ⟨nd20, rfl⟩⟩))
  have D := dbox (v := uv) x d a b (nd + nd7 + nd15 + nd20) hb1 hblk hcv hs1
  clear hb1 hblk hcv hq hFi hH hr7 hr15 hr20
  generalize (((((w1.alloc (.cells #[.int .i64 x, .int .i64 0, .int .i64 0, .int .i64 0, .int .i64 0] 23)).drewN (nd + nd7 + nd15 + nd20)).setCell ⟨w1.heap.size, 1, none⟩ (.int .i64 d)).setCell ⟨w1.heap.size, 2, none⟩ (.int .i64 a)).setCell ⟨w1.heap.size, 3, none⟩ (.int .i64 b)) = W at D ⊢
  generalize w1.heap.size = X at D hs1 ⊢
  clear hs1
  have k0 := D.ltX; have k1 := D.szX; have k2 := D.s0; have k3 := D.s1; have k4 := D.cv
  have l2 : w.heap.size + 1 < W.heap.size + 1 + 1 := by omega
  have m2 : w.heap.size < W.heap.size + 1 + 1 := by omega
  have o2 : ¬ w.heap.size = W.heap.size + 1 + 1 := by omega
  have l3 : w.heap.size + 1 < W.heap.size + 1 + 1 + 1 := by omega
  have m3 : w.heap.size < W.heap.size + 1 + 1 + 1 := by omega
  have o3 : ¬ w.heap.size = W.heap.size + 1 + 1 + 1 := by omega
  have l4 : w.heap.size + 1 < W.heap.size + 1 + 1 + 1 + 1 := by omega
  have m4 : w.heap.size < W.heap.size + 1 + 1 + 1 + 1 := by omega
  have o4 : ¬ w.heap.size = W.heap.size + 1 + 1 + 1 + 1 := by omega
  go_wp2_with (go_at_call 19; refine (parts_B _).mono ?_; rintro e w' ⟨rfl, rfl⟩)
  refine wp_loop_rounds 5 ?_
  rw [rounds_succ]
  go_wp2_with (first | (go_at_call 20; refine (hfl0 _).mono ?_; rintro e w' ⟨rfl, ⟨nd, rfl⟩⟩) | (go_at_call 21; refine (hpt0 _).mono ?_; rintro e w' ⟨rfl, ⟨nd2, rfl⟩⟩))
  rw [rounds_succ]
  go_wp2_with (first | (go_at_call 20; refine (hfl1 _).mono ?_; rintro e w' ⟨rfl, ⟨nd, rfl⟩⟩) | (go_at_call 21; refine (hpt1 _).mono ?_; rintro e w' ⟨rfl, ⟨nd2, rfl⟩⟩))
  rw [rounds_succ]
  go_wp2_with (first | (go_at_call 20; refine (hfl2 _).mono ?_; rintro e w' ⟨rfl, ⟨nd, rfl⟩⟩) | (go_at_call 21; refine (hpt2 _).mono ?_; rintro e w' ⟨rfl, ⟨nd2, rfl⟩⟩))
  rw [rounds_succ]
  go_wp2_with (first | (go_at_call 20; refine (hfl3 _).mono ?_; rintro e w' ⟨rfl, ⟨nd, rfl⟩⟩) | (go_at_call 21; refine (hpt3 _).mono ?_; rintro e w' ⟨rfl, ⟨nd2, rfl⟩⟩))
  rw [rounds_succ]
  clear k0 k1 k2 k3 k4 l2 m2 o2 l3 m3 o3 l4 m4 o4
  refine D.go (by repeat (first | exact Below.refl _ _ | apply below_alloc | apply pw_below_drewN | apply below_drew)) ?_
  clear D; intro W D
  have k0 := D.ltX; have k1 := D.szX; have k2 := D.s0; have k3 := D.s1; have k4 := D.cv; have k5 := D.r0; have k6 := D.r1; have k7 := D.r2; have k8 := D.r3; have k9 := D.r4; have k10 := D.f0; have k11 := D.f1; have k12 := D.f2; have k13 := D.f3; have k14 := D.f4; have k15 := D.x0; have k16 := D.x1; have k17 := D.x2; have k18 := D.x3; have k19 := D.x4; have k20 := D.g0; have k21 := D.g1; have k22 := D.g2; have k23 := D.g3; have k24 := D.g4
  go_wp2_with (first | (go_at_call 18; refine (hsh _).mono ?_; rintro e w' ⟨rfl, ⟨nd3, rfl⟩⟩) | (go_at_call 33; refine (hlo _).mono ?_; rintro e W2 ⟨rfl, hb2⟩; clear k0 k1 k2 k3 k4 k5 k6 k7 k8 k9 k10 k11 k12 k13 k14 k15 k16 k17 k18 k19 k20 k21 k22 k23 k24) | (go_at_call 32; refine (hsg _).mono ?_; rintro e w' ⟨rfl, ⟨nd5, rfl⟩⟩; have Dy := D.later (W' := W2.drewN nd5) (pw_below_drewN ((pw_below_drewN (Below.refl _ _) _).trans hb2) _); have Dz := after_long D (W' := W2.drewN nd5) (pw_below_drewN ((pw_below_drewN (Below.refl _ _) _).trans hb2) _) imm; have y0 := Dy.ltX; have y1 := Dy.szX; have y2 := Dy.s0; have y3 := Dy.s1; have y4 := Dy.cv; have y5 := Dy.r0; have y6 := Dy.r1; have y7 := Dy.r2; have y8 := Dy.r3; have y9 := Dy.r4; have y10 := Dy.f0; have y11 := Dy.f1; have y12 := Dy.f2; have y13 := Dy.f3; have y14 := Dy.f4; have y15 := Dy.x0; have y16 := Dy.x1; have y17 := Dy.x2; have y18 := Dy.x3; have y19 := Dy.x4; have y20 := Dy.g0; have y21 := Dy.g1; have y22 := Dy.g2; have y23 := Dy.g3; have y24 := Dy.g4; have z0 := Dz.ltX; have z1 := Dz.szX; have z2 := Dz.s0; have z3 := Dz.s1; have z4 := Dz.cv; have z5 := Dz.r0; have z6 := Dz.r1; have z7 := Dz.r2; have z8 := Dz.r3; have z9 := Dz.r4; have z10 := Dz.f0; have z11 := Dz.f1; have z12 := Dz.f2; have z13 := Dz.f3; have z14 := Dz.f4; have z15 := Dz.x0; have z16 := Dz.x1; have z17 := Dz.x2; have z18 := Dz.x3; have z19 := Dz.x4; have z20 := Dz.g0; have z21 := Dz.g1; have z22 := Dz.g2; have z23 := Dz.g3; have z24 := Dz.g4; have gg := set_five (w := (W2.drewN nd5).setCell ⟨X, 4, none⟩ (.int .i64 imm)) (fun j hj => ⟨_, Dz.res j hj⟩) (.int .i64 x) (.int .i64 d) (.int .i64 a) (.int .i64 b) (.int .i64 imm); dsimp only at gg; obtain ⟨g0, g1, g2, g3, g4⟩ := gg))
  refine bodyPost_ret (v := .tuple #[insV x d a b imm, .int .i64 0]) (by simp [results, Tryd.results16, go_sem, g0, g1, g2, g3, g4]) rfl ⟨rfl, ?_⟩
  exact (((((Dz.below.setCell (Nat.le_refl _) _).setCell (Nat.le_refl _) _).setCell (Nat.le_refl _) _).setCell (Nat.le_refl _) _).setCell (Nat.le_refl _) _)
set_option maxHeartbeats 4000000 in
set_option maxRecDepth 100000 in
theorem walk_U (uv x d a b u0 n0 imm : Int) (w : World)
    (hU : IntKind.u64.wrap uv = uv)
    (hFi : Calls Tryd.prog 30 #[.int .u64 uv] ((w.alloc (.cells #[.int .i64 0, .int .i64 0, .int .i64 0, .int .i64 0, .int .i64 0] 23)).alloc (.cells #[.int .u64 uv] 38)) fun e w1 => e = .returned (.tuple #[.int .i64 x, .string ⟨#[85]⟩, .bool true]) ∧ Below w.heap.size w w1 ∧ (∀ j, j < 5 → w1.cell? ⟨w.heap.size, j, none⟩ = some (.int .i64 0) ∧ w1.frozen? ⟨w.heap.size, j, none⟩ = false) ∧ w1.cell? ⟨w.heap.size + 1, 0, none⟩ = some (.int .u64 uv) ∧ w.heap.size + 1 < w1.heap.size)
    (hH : ∀ w, Calls Tryd.prog 27 #[.string ⟨#[85]⟩] w fun e w' => e = .returned (.tuple #[.bool true, .bool false, .bool false]) ∧ Drawn0 w w')
    (hsh : ∀ w, Calls Tryd.prog 18 #[.int .i64 x] w fun e w' => e = .returned (.bool false) ∧ Drawn0 w w')
    (hr7 : ∀ k w, w.cell? ⟨k, 0, none⟩ = some (.int .u64 uv) → Calls Tryd.prog 31 #[.int .i64 7, .bool true, .pointer (some ⟨k, 0, none⟩)] w fun e w' => e = .returned (.int .i64 d) ∧ Drawn0 w w')
    (hr15 : ∀ k w, w.cell? ⟨k, 0, none⟩ = some (.int .u64 uv) → Calls Tryd.prog 31 #[.int .i64 15, .bool false, .pointer (some ⟨k, 0, none⟩)] w fun e w' => e = .returned (.int .i64 a) ∧ Drawn0 w w')
    (hr20 : ∀ k w, w.cell? ⟨k, 0, none⟩ = some (.int .u64 uv) → Calls Tryd.prog 31 #[.int .i64 20, .bool false, .pointer (some ⟨k, 0, none⟩)] w fun e w' => e = .returned (.int .i64 b) ∧ Drawn0 w w')
    (hfl0 : ∀ w, Calls Tryd.prog 20 #[.int .u64 uv, .int .i64 12, .int .i64 20] w fun e w' => e = .returned (.tuple #[.int .u64 u0, .bool true]) ∧ Drawn0 w w')
    (hpt0 : ∀ w, Calls Tryd.prog 21 #[.int .u64 0, .int .i64 12, .int .i64 20, .int .u64 u0] w fun e w' => e = .returned (.tuple #[.int .u64 n0, .bool true]) ∧ Drawn0 w w')
    (hlo : ∀ w, Calls Tryd.prog 33 #[.string ⟨#[85]⟩] w fun e w' => e = .returned (.int .i64 32) ∧ Below w.heap.size w w')
    (hsg : ∀ w, Calls Tryd.prog 32 #[.int .u64 n0, .int .i64 32] w fun e w' => e = .returned (.int .i64 imm) ∧ Drawn0 w w')
    : Calls Tryd.prog 16 #[.int .u32 uv] w fun e w' => e = .returned (.tuple #[insV x d a b imm, .int .i64 0]) ∧ Below w.heap.size w w' := by
  go_enter Tryd.func16, Tryd.ntmps16
  go_wp2_with (first | (go_at_call 30; refine hFi.mono ?_; rintro e w1 ⟨rfl, hb1, hblk, hcv, hs1⟩; have hq : ∀ o n, ((w1.alloc o).drewN n).cell? ⟨w.heap.size + 1, 0, none⟩ = some (.int .u64 uv) := fun o n => (World.cell?_alloc_lt w1 o ⟨w.heap.size + 1, 0, none⟩ hs1).trans hcv) | (go_at_call 27; refine (hH _).mono ?_; rintro e w' ⟨rfl, ⟨nd, rfl⟩⟩) | (go_at_call 31; with_reducible refine (hr7 _ _ (hq _ _)).mono ?_; rintro e w' ⟨rfl, ⟨nd7, rfl⟩⟩) | (go_at_call 31; with_reducible refine (hr15 _ _ (hq _ _)).mono ?_; rintro e w' ⟨rfl, ⟨nd15, rfl⟩⟩) | (go_at_call 31; with_reducible refine (hr20 _ _ (hq _ _)).mono ?_; rintro e w' ⟨rfl, ⟨nd20, rfl⟩⟩))
  have D := dbox (v := uv) x d a b (nd + nd7 + nd15 + nd20) hb1 hblk hcv hs1
  clear hb1 hblk hcv hq hFi hH hr7 hr15 hr20
  generalize (((((w1.alloc (.cells #[.int .i64 x, .int .i64 0, .int .i64 0, .int .i64 0, .int .i64 0] 23)).drewN (nd + nd7 + nd15 + nd20)).setCell ⟨w1.heap.size, 1, none⟩ (.int .i64 d)).setCell ⟨w1.heap.size, 2, none⟩ (.int .i64 a)).setCell ⟨w1.heap.size, 3, none⟩ (.int .i64 b)) = W at D ⊢
  generalize w1.heap.size = X at D hs1 ⊢
  clear hs1
  have k0 := D.ltX; have k1 := D.szX; have k2 := D.s0; have k3 := D.s1; have k4 := D.cv
  go_wp2_with (go_at_call 19; refine (parts_U _).mono ?_; rintro e w' ⟨rfl, rfl⟩)
  refine wp_loop_rounds 2 ?_
  rw [rounds_succ]
  go_wp2_with (first | (go_at_call 20; refine (hfl0 _).mono ?_; rintro e w' ⟨rfl, ⟨nd, rfl⟩⟩) | (go_at_call 21; refine (hpt0 _).mono ?_; rintro e w' ⟨rfl, ⟨nd2, rfl⟩⟩))
  rw [rounds_succ]
  clear k0 k1 k2 k3 k4
  refine D.go (by repeat (first | exact Below.refl _ _ | apply below_alloc | apply pw_below_drewN | apply below_drew)) ?_
  clear D; intro W D
  have k0 := D.ltX; have k1 := D.szX; have k2 := D.s0; have k3 := D.s1; have k4 := D.cv; have k5 := D.r0; have k6 := D.r1; have k7 := D.r2; have k8 := D.r3; have k9 := D.r4; have k10 := D.f0; have k11 := D.f1; have k12 := D.f2; have k13 := D.f3; have k14 := D.f4; have k15 := D.x0; have k16 := D.x1; have k17 := D.x2; have k18 := D.x3; have k19 := D.x4; have k20 := D.g0; have k21 := D.g1; have k22 := D.g2; have k23 := D.g3; have k24 := D.g4
  go_wp2_with (first | (go_at_call 18; refine (hsh _).mono ?_; rintro e w' ⟨rfl, ⟨nd3, rfl⟩⟩) | (go_at_call 33; refine (hlo _).mono ?_; rintro e W2 ⟨rfl, hb2⟩; clear k0 k1 k2 k3 k4 k5 k6 k7 k8 k9 k10 k11 k12 k13 k14 k15 k16 k17 k18 k19 k20 k21 k22 k23 k24) | (go_at_call 32; refine (hsg _).mono ?_; rintro e w' ⟨rfl, ⟨nd5, rfl⟩⟩; have Dy := D.later (W' := W2.drewN nd5) (pw_below_drewN ((pw_below_drewN (Below.refl _ _) _).trans hb2) _); have Dz := after_long D (W' := W2.drewN nd5) (pw_below_drewN ((pw_below_drewN (Below.refl _ _) _).trans hb2) _) imm; have y0 := Dy.ltX; have y1 := Dy.szX; have y2 := Dy.s0; have y3 := Dy.s1; have y4 := Dy.cv; have y5 := Dy.r0; have y6 := Dy.r1; have y7 := Dy.r2; have y8 := Dy.r3; have y9 := Dy.r4; have y10 := Dy.f0; have y11 := Dy.f1; have y12 := Dy.f2; have y13 := Dy.f3; have y14 := Dy.f4; have y15 := Dy.x0; have y16 := Dy.x1; have y17 := Dy.x2; have y18 := Dy.x3; have y19 := Dy.x4; have y20 := Dy.g0; have y21 := Dy.g1; have y22 := Dy.g2; have y23 := Dy.g3; have y24 := Dy.g4; have z0 := Dz.ltX; have z1 := Dz.szX; have z2 := Dz.s0; have z3 := Dz.s1; have z4 := Dz.cv; have z5 := Dz.r0; have z6 := Dz.r1; have z7 := Dz.r2; have z8 := Dz.r3; have z9 := Dz.r4; have z10 := Dz.f0; have z11 := Dz.f1; have z12 := Dz.f2; have z13 := Dz.f3; have z14 := Dz.f4; have z15 := Dz.x0; have z16 := Dz.x1; have z17 := Dz.x2; have z18 := Dz.x3; have z19 := Dz.x4; have z20 := Dz.g0; have z21 := Dz.g1; have z22 := Dz.g2; have z23 := Dz.g3; have z24 := Dz.g4; have gg := set_five (w := (W2.drewN nd5).setCell ⟨X, 4, none⟩ (.int .i64 imm)) (fun j hj => ⟨_, Dz.res j hj⟩) (.int .i64 x) (.int .i64 d) (.int .i64 a) (.int .i64 b) (.int .i64 imm); dsimp only at gg; obtain ⟨g0, g1, g2, g3, g4⟩ := gg))
  refine bodyPost_ret (v := .tuple #[insV x d a b imm, .int .i64 0]) (by simp [results, Tryd.results16, go_sem, g0, g1, g2, g3, g4]) rfl ⟨rfl, ?_⟩
  exact (((((Dz.below.setCell (Nat.le_refl _) _).setCell (Nat.le_refl _) _).setCell (Nat.le_refl _) _).setCell (Nat.le_refl _) _).setCell (Nat.le_refl _) _)
set_option maxHeartbeats 4000000 in
set_option maxRecDepth 100000 in
theorem walk_J (uv x d a b u0 u1 u2 u3 n0 n1 n2 n3 imm : Int) (w : World)
    (hU : IntKind.u64.wrap uv = uv)
    (hFi : Calls Tryd.prog 30 #[.int .u64 uv] ((w.alloc (.cells #[.int .i64 0, .int .i64 0, .int .i64 0, .int .i64 0, .int .i64 0] 23)).alloc (.cells #[.int .u64 uv] 38)) fun e w1 => e = .returned (.tuple #[.int .i64 x, .string ⟨#[74]⟩, .bool true]) ∧ Below w.heap.size w w1 ∧ (∀ j, j < 5 → w1.cell? ⟨w.heap.size, j, none⟩ = some (.int .i64 0) ∧ w1.frozen? ⟨w.heap.size, j, none⟩ = false) ∧ w1.cell? ⟨w.heap.size + 1, 0, none⟩ = some (.int .u64 uv) ∧ w.heap.size + 1 < w1.heap.size)
    (hH : ∀ w, Calls Tryd.prog 27 #[.string ⟨#[74]⟩] w fun e w' => e = .returned (.tuple #[.bool true, .bool false, .bool false]) ∧ Drawn0 w w')
    (hsh : ∀ w, Calls Tryd.prog 18 #[.int .i64 x] w fun e w' => e = .returned (.bool false) ∧ Drawn0 w w')
    (hr7 : ∀ k w, w.cell? ⟨k, 0, none⟩ = some (.int .u64 uv) → Calls Tryd.prog 31 #[.int .i64 7, .bool true, .pointer (some ⟨k, 0, none⟩)] w fun e w' => e = .returned (.int .i64 d) ∧ Drawn0 w w')
    (hr15 : ∀ k w, w.cell? ⟨k, 0, none⟩ = some (.int .u64 uv) → Calls Tryd.prog 31 #[.int .i64 15, .bool false, .pointer (some ⟨k, 0, none⟩)] w fun e w' => e = .returned (.int .i64 a) ∧ Drawn0 w w')
    (hr20 : ∀ k w, w.cell? ⟨k, 0, none⟩ = some (.int .u64 uv) → Calls Tryd.prog 31 #[.int .i64 20, .bool false, .pointer (some ⟨k, 0, none⟩)] w fun e w' => e = .returned (.int .i64 b) ∧ Drawn0 w w')
    (hfl0 : ∀ w, Calls Tryd.prog 20 #[.int .u64 uv, .int .i64 21, .int .i64 10] w fun e w' => e = .returned (.tuple #[.int .u64 u0, .bool true]) ∧ Drawn0 w w')
    (hpt0 : ∀ w, Calls Tryd.prog 21 #[.int .u64 0, .int .i64 1, .int .i64 10, .int .u64 u0] w fun e w' => e = .returned (.tuple #[.int .u64 n0, .bool true]) ∧ Drawn0 w w')
    (hfl1 : ∀ w, Calls Tryd.prog 20 #[.int .u64 uv, .int .i64 20, .int .i64 1] w fun e w' => e = .returned (.tuple #[.int .u64 u1, .bool true]) ∧ Drawn0 w w')
    (hpt1 : ∀ w, Calls Tryd.prog 21 #[.int .u64 n0, .int .i64 11, .int .i64 1, .int .u64 u1] w fun e w' => e = .returned (.tuple #[.int .u64 n1, .bool true]) ∧ Drawn0 w w')
    (hfl2 : ∀ w, Calls Tryd.prog 20 #[.int .u64 uv, .int .i64 12, .int .i64 8] w fun e w' => e = .returned (.tuple #[.int .u64 u2, .bool true]) ∧ Drawn0 w w')
    (hpt2 : ∀ w, Calls Tryd.prog 21 #[.int .u64 n1, .int .i64 12, .int .i64 8, .int .u64 u2] w fun e w' => e = .returned (.tuple #[.int .u64 n2, .bool true]) ∧ Drawn0 w w')
    (hfl3 : ∀ w, Calls Tryd.prog 20 #[.int .u64 uv, .int .i64 31, .int .i64 1] w fun e w' => e = .returned (.tuple #[.int .u64 u3, .bool true]) ∧ Drawn0 w w')
    (hpt3 : ∀ w, Calls Tryd.prog 21 #[.int .u64 n2, .int .i64 20, .int .i64 1, .int .u64 u3] w fun e w' => e = .returned (.tuple #[.int .u64 n3, .bool true]) ∧ Drawn0 w w')
    (hlo : ∀ w, Calls Tryd.prog 33 #[.string ⟨#[74]⟩] w fun e w' => e = .returned (.int .i64 21) ∧ Below w.heap.size w w')
    (hsg : ∀ w, Calls Tryd.prog 32 #[.int .u64 n3, .int .i64 21] w fun e w' => e = .returned (.int .i64 imm) ∧ Drawn0 w w')
    : Calls Tryd.prog 16 #[.int .u32 uv] w fun e w' => e = .returned (.tuple #[insV x d a b imm, .int .i64 0]) ∧ Below w.heap.size w w' := by
  go_enter Tryd.func16, Tryd.ntmps16
  go_wp2_with (first | (go_at_call 30; refine hFi.mono ?_; rintro e w1 ⟨rfl, hb1, hblk, hcv, hs1⟩; have hq : ∀ o n, ((w1.alloc o).drewN n).cell? ⟨w.heap.size + 1, 0, none⟩ = some (.int .u64 uv) := fun o n => (World.cell?_alloc_lt w1 o ⟨w.heap.size + 1, 0, none⟩ hs1).trans hcv) | (go_at_call 27; refine (hH _).mono ?_; rintro e w' ⟨rfl, ⟨nd, rfl⟩⟩) | (go_at_call 31; with_reducible refine (hr7 _ _ (hq _ _)).mono ?_; rintro e w' ⟨rfl, ⟨nd7, rfl⟩⟩) | (go_at_call 31; with_reducible refine (hr15 _ _ (hq _ _)).mono ?_; rintro e w' ⟨rfl, ⟨nd15, rfl⟩⟩) | (go_at_call 31; with_reducible refine (hr20 _ _ (hq _ _)).mono ?_; rintro e w' ⟨rfl, ⟨nd20, rfl⟩⟩))
  have D := dbox (v := uv) x d a b (nd + nd7 + nd15 + nd20) hb1 hblk hcv hs1
  clear hb1 hblk hcv hq hFi hH hr7 hr15 hr20
  generalize (((((w1.alloc (.cells #[.int .i64 x, .int .i64 0, .int .i64 0, .int .i64 0, .int .i64 0] 23)).drewN (nd + nd7 + nd15 + nd20)).setCell ⟨w1.heap.size, 1, none⟩ (.int .i64 d)).setCell ⟨w1.heap.size, 2, none⟩ (.int .i64 a)).setCell ⟨w1.heap.size, 3, none⟩ (.int .i64 b)) = W at D ⊢
  generalize w1.heap.size = X at D hs1 ⊢
  clear hs1
  have k0 := D.ltX; have k1 := D.szX; have k2 := D.s0; have k3 := D.s1; have k4 := D.cv
  have l2 : w.heap.size + 1 < W.heap.size + 1 + 1 := by omega
  have m2 : w.heap.size < W.heap.size + 1 + 1 := by omega
  have o2 : ¬ w.heap.size = W.heap.size + 1 + 1 := by omega
  have l3 : w.heap.size + 1 < W.heap.size + 1 + 1 + 1 := by omega
  have m3 : w.heap.size < W.heap.size + 1 + 1 + 1 := by omega
  have o3 : ¬ w.heap.size = W.heap.size + 1 + 1 + 1 := by omega
  have l4 : w.heap.size + 1 < W.heap.size + 1 + 1 + 1 + 1 := by omega
  have m4 : w.heap.size < W.heap.size + 1 + 1 + 1 + 1 := by omega
  have o4 : ¬ w.heap.size = W.heap.size + 1 + 1 + 1 + 1 := by omega
  go_wp2_with (go_at_call 19; refine (parts_J _).mono ?_; rintro e w' ⟨rfl, rfl⟩)
  refine wp_loop_rounds 5 ?_
  rw [rounds_succ]
  go_wp2_with (first | (go_at_call 20; refine (hfl0 _).mono ?_; rintro e w' ⟨rfl, ⟨nd, rfl⟩⟩) | (go_at_call 21; refine (hpt0 _).mono ?_; rintro e w' ⟨rfl, ⟨nd2, rfl⟩⟩))
  rw [rounds_succ]
  go_wp2_with (first | (go_at_call 20; refine (hfl1 _).mono ?_; rintro e w' ⟨rfl, ⟨nd, rfl⟩⟩) | (go_at_call 21; refine (hpt1 _).mono ?_; rintro e w' ⟨rfl, ⟨nd2, rfl⟩⟩))
  rw [rounds_succ]
  go_wp2_with (first | (go_at_call 20; refine (hfl2 _).mono ?_; rintro e w' ⟨rfl, ⟨nd, rfl⟩⟩) | (go_at_call 21; refine (hpt2 _).mono ?_; rintro e w' ⟨rfl, ⟨nd2, rfl⟩⟩))
  rw [rounds_succ]
  go_wp2_with (first | (go_at_call 20; refine (hfl3 _).mono ?_; rintro e w' ⟨rfl, ⟨nd, rfl⟩⟩) | (go_at_call 21; refine (hpt3 _).mono ?_; rintro e w' ⟨rfl, ⟨nd2, rfl⟩⟩))
  rw [rounds_succ]
  clear k0 k1 k2 k3 k4 l2 m2 o2 l3 m3 o3 l4 m4 o4
  refine D.go (by repeat (first | exact Below.refl _ _ | apply below_alloc | apply pw_below_drewN | apply below_drew)) ?_
  clear D; intro W D
  have k0 := D.ltX; have k1 := D.szX; have k2 := D.s0; have k3 := D.s1; have k4 := D.cv; have k5 := D.r0; have k6 := D.r1; have k7 := D.r2; have k8 := D.r3; have k9 := D.r4; have k10 := D.f0; have k11 := D.f1; have k12 := D.f2; have k13 := D.f3; have k14 := D.f4; have k15 := D.x0; have k16 := D.x1; have k17 := D.x2; have k18 := D.x3; have k19 := D.x4; have k20 := D.g0; have k21 := D.g1; have k22 := D.g2; have k23 := D.g3; have k24 := D.g4
  go_wp2_with (first | (go_at_call 18; refine (hsh _).mono ?_; rintro e w' ⟨rfl, ⟨nd3, rfl⟩⟩) | (go_at_call 33; refine (hlo _).mono ?_; rintro e W2 ⟨rfl, hb2⟩; clear k0 k1 k2 k3 k4 k5 k6 k7 k8 k9 k10 k11 k12 k13 k14 k15 k16 k17 k18 k19 k20 k21 k22 k23 k24) | (go_at_call 32; refine (hsg _).mono ?_; rintro e w' ⟨rfl, ⟨nd5, rfl⟩⟩; have Dy := D.later (W' := W2.drewN nd5) (pw_below_drewN ((pw_below_drewN (Below.refl _ _) _).trans hb2) _); have Dz := after_long D (W' := W2.drewN nd5) (pw_below_drewN ((pw_below_drewN (Below.refl _ _) _).trans hb2) _) imm; have y0 := Dy.ltX; have y1 := Dy.szX; have y2 := Dy.s0; have y3 := Dy.s1; have y4 := Dy.cv; have y5 := Dy.r0; have y6 := Dy.r1; have y7 := Dy.r2; have y8 := Dy.r3; have y9 := Dy.r4; have y10 := Dy.f0; have y11 := Dy.f1; have y12 := Dy.f2; have y13 := Dy.f3; have y14 := Dy.f4; have y15 := Dy.x0; have y16 := Dy.x1; have y17 := Dy.x2; have y18 := Dy.x3; have y19 := Dy.x4; have y20 := Dy.g0; have y21 := Dy.g1; have y22 := Dy.g2; have y23 := Dy.g3; have y24 := Dy.g4; have z0 := Dz.ltX; have z1 := Dz.szX; have z2 := Dz.s0; have z3 := Dz.s1; have z4 := Dz.cv; have z5 := Dz.r0; have z6 := Dz.r1; have z7 := Dz.r2; have z8 := Dz.r3; have z9 := Dz.r4; have z10 := Dz.f0; have z11 := Dz.f1; have z12 := Dz.f2; have z13 := Dz.f3; have z14 := Dz.f4; have z15 := Dz.x0; have z16 := Dz.x1; have z17 := Dz.x2; have z18 := Dz.x3; have z19 := Dz.x4; have z20 := Dz.g0; have z21 := Dz.g1; have z22 := Dz.g2; have z23 := Dz.g3; have z24 := Dz.g4; have gg := set_five (w := (W2.drewN nd5).setCell ⟨X, 4, none⟩ (.int .i64 imm)) (fun j hj => ⟨_, Dz.res j hj⟩) (.int .i64 x) (.int .i64 d) (.int .i64 a) (.int .i64 b) (.int .i64 imm); dsimp only at gg; obtain ⟨g0, g1, g2, g3, g4⟩ := gg))
  refine bodyPost_ret (v := .tuple #[insV x d a b imm, .int .i64 0]) (by simp [results, Tryd.results16, go_sem, g0, g1, g2, g3, g4]) rfl ⟨rfl, ?_⟩
  exact (((((Dz.below.setCell (Nat.le_refl _) _).setCell (Nat.le_refl _) _).setCell (Nat.le_refl _) _).setCell (Nat.le_refl _) _).setCell (Nat.le_refl _) _)
end Go.Proofs.YtbdlhhajblhmiaaDoor.Ins
