/- What imm of package ins comes to, form by form: contracts, walked. -/
import Derived.Test.YtbdlhhajblhmiaaDoorInsA
set_option linter.unusedVariables false
set_option linter.unusedSimpArgs false
namespace Go.Proofs.YtbdlhhajblhmiaaDoor.Ins
open Go Go.RowKit Go.Proofs Go.Proofs.YtbdlhhajblhmiaaDoorW.PrintWords Go.Proofs.YtbdlhhajblhmiaaDoor.Bv Go.Proofs.YtbdlhhajblhmiaaDoor.Bw Go.Proofs.YtbdlhhajblhmiaaDoor.BL Go.Proofs.YtbdlhhajblhmiaaDoor.QEncode

/-- Whether a number is one of a form's. -/
def immB (f : Fm) (sh : Bool) (z : BitVec 64) : Bool :=
  match f with
  | .I => if sh then decide (0 ≤ S z) && decide (z.toNat < 2 ^ 6) else decide (sg z 12 = z)
  | .S => decide (sg z 12 = z)
  | .B => decide (sg z 13 = z) && (Go.bits .and .i64 (S z) 1 == 0)
  | .U => decide (sg z 32 = z) && (Go.bits .and .i64 (S z) 4095 == 0)
  | .J => decide (sg z 21 = z) && (Go.bits .and .i64 (S z) 1 == 0)
  | _ => decide (S z = 0)
theorem fits_c (z : BitVec 64) (n : Int) (m : Nat) (hm : n = m) (h1 : 1 ≤ m) (h2 : m ≤ 64) (w : World) :
    Calls Tryd.prog 39 #[.int .i64 (S z), .int .i64 n] w fun e w' => e = .returned (.bool (decide (sg z m = z))) ∧ Drawn0 w w' := by
  refine bits_Fits.calls (S z) n _ w ?_
  subst hm
  exact fits_yes z (by omega) (by omega)
theorem fitsU_c (z : BitVec 64) (w : World) :
    Calls Tryd.prog 38 #[.int .u64 (U z), .int .i64 6] w fun e w' => e = .returned (.bool (decide (z.toNat < 2 ^ 6))) ∧ Drawn0 w w' := by
  refine bits_FitsU.calls (U z) 6 _ w ?_
  exact fitsU_yes z (by decide) (by decide)
theorem shift_c (op : Int) (w : World) : Calls Tryd.prog 18 #[.int .i64 op] w fun e w' => e = .returned (.bool (decide (22 ≤ op ∧ op ≤ 24))) ∧ Drawn0 w w' := by
  refine ins_shift.calls op _ w ?_
  unfold ins_shift.f
  by_cases h : op = 22
  · rw [if_pos h, decide_eq_true (by omega)]
  · by_cases h' : op = 23
    · rw [if_neg h, if_pos h', decide_eq_true (by omega)]
    · rw [if_neg h, if_neg h']
      refine congrArg some ?_
      by_cases h'' : op = 24
      · rw [decide_eq_true (by omega)]; simp [h'']
      · rw [decide_eq_false (by omega)]; simp [h'']
set_option maxHeartbeats 1000000 in
set_option maxRecDepth 100000 in
theorem imm_I (op rd r1 r2 : Int) (h0 : 0 ≤ op) (h1 : op ≤ 42) (z : BitVec 64) (w : World) (hsz : 0 < w.heap.size) (hc : w.cell? ⟨0, op.toNat * 4, none⟩ = some (.string ⟨#[73]⟩)) (hs : ¬ (22 ≤ op ∧ op ≤ 24)) :
    Calls Tryd.prog 29 #[.agg #[.int .i64 op, .int .i64 rd, .int .i64 r1, .int .i64 r2, .int .i64 (S z)]] w fun e w' => e = .returned (.bool (decide (sg z 12 = z))) ∧ Below w.heap.size w w' := by
  have hc' : ∀ o : Obj, (w.alloc o).cell? ⟨0, op.toNat * 4, none⟩ = some (.string ⟨#[73]⟩) := fun o => (World.cell?_alloc_lt _ _ _ hsz).trans hc
  have hsh := shift_c op
  rw [decide_eq_false hs] at hsh
  have hf := fits_c z 12 12 rfl (by decide) (by decide)
  obtain ⟨b, hb⟩ : ∃ b, decide (sg z 12 = z) = b := ⟨_, rfl⟩
  rw [hb] at hf ⊢
  clear hb
  clear hs
  go_enter Tryd.func29, Tryd.ntmps29
  go_wp2_with (first | (go_at_call 18; refine (hsh _).mono ?_; rintro e w' ⟨rfl, ⟨nd, rfl⟩⟩) | (go_at_call 39; refine (hf _).mono ?_; rintro e w' ⟨rfl, ⟨nd2, rfl⟩⟩))
  go_ret
  exact ⟨rfl, by repeat (first | exact Below.refl _ _ | apply below_alloc | apply pw_below_drewN | apply below_drew)⟩
set_option maxHeartbeats 1000000 in
set_option maxRecDepth 100000 in
theorem imm_Ish (op rd r1 r2 : Int) (h0 : 0 ≤ op) (h1 : op ≤ 42) (z : BitVec 64) (w : World) (hsz : 0 < w.heap.size) (hc : w.cell? ⟨0, op.toNat * 4, none⟩ = some (.string ⟨#[73]⟩)) (hs : 22 ≤ op ∧ op ≤ 24) (hp : 0 ≤ S z) :
    Calls Tryd.prog 29 #[.agg #[.int .i64 op, .int .i64 rd, .int .i64 r1, .int .i64 r2, .int .i64 (S z)]] w fun e w' => e = .returned (.bool (decide (z.toNat < 2 ^ 6))) ∧ Below w.heap.size w w' := by
  have hc' : ∀ o : Obj, (w.alloc o).cell? ⟨0, op.toNat * 4, none⟩ = some (.string ⟨#[73]⟩) := fun o => (World.cell?_alloc_lt _ _ _ hsz).trans hc
  have hsh := shift_c op
  rw [decide_eq_true hs] at hsh
  have hf := fitsU_c z
  have hu := wrapUS z
  obtain ⟨b, hb⟩ : ∃ b, decide (z.toNat < 2 ^ 6) = b := ⟨_, rfl⟩
  rw [hb] at hf ⊢
  clear hb hs
  go_enter Tryd.func29, Tryd.ntmps29
  go_wp2_with (first | (go_at_call 18; refine (hsh _).mono ?_; rintro e w' ⟨rfl, ⟨nd, rfl⟩⟩) | (go_at_call 38; refine (hf _).mono ?_; rintro e w' ⟨rfl, ⟨nd2, rfl⟩⟩))
  go_ret
  exact ⟨rfl, by repeat (first | exact Below.refl _ _ | apply below_alloc | apply pw_below_drewN | apply below_drew)⟩
set_option maxHeartbeats 1000000 in
set_option maxRecDepth 100000 in
theorem imm_Ishn (op rd r1 r2 : Int) (h0 : 0 ≤ op) (h1 : op ≤ 42) (z : BitVec 64) (w : World) (hsz : 0 < w.heap.size) (hc : w.cell? ⟨0, op.toNat * 4, none⟩ = some (.string ⟨#[73]⟩)) (hs : 22 ≤ op ∧ op ≤ 24) (hp : S z < 0) :
    Calls Tryd.prog 29 #[.agg #[.int .i64 op, .int .i64 rd, .int .i64 r1, .int .i64 r2, .int .i64 (S z)]] w fun e w' => e = .returned (.bool (false)) ∧ Below w.heap.size w w' := by
  have hc' : ∀ o : Obj, (w.alloc o).cell? ⟨0, op.toNat * 4, none⟩ = some (.string ⟨#[73]⟩) := fun o => (World.cell?_alloc_lt _ _ _ hsz).trans hc
  have hsh := shift_c op
  rw [decide_eq_true hs] at hsh
  clear hs
  go_enter Tryd.func29, Tryd.ntmps29
  go_wp2_with (first | (go_at_call 18; refine (hsh _).mono ?_; rintro e w' ⟨rfl, ⟨nd, rfl⟩⟩))
  go_ret
  exact ⟨rfl, by repeat (first | exact Below.refl _ _ | apply below_alloc | apply pw_below_drewN | apply below_drew)⟩
set_option maxHeartbeats 1000000 in
set_option maxRecDepth 100000 in
theorem imm_S (op rd r1 r2 : Int) (h0 : 0 ≤ op) (h1 : op ≤ 42) (z : BitVec 64) (w : World) (hsz : 0 < w.heap.size) (hc : w.cell? ⟨0, op.toNat * 4, none⟩ = some (.string ⟨#[83]⟩)) :
    Calls Tryd.prog 29 #[.agg #[.int .i64 op, .int .i64 rd, .int .i64 r1, .int .i64 r2, .int .i64 (S z)]] w fun e w' => e = .returned (.bool (decide (sg z 12 = z))) ∧ Below w.heap.size w w' := by
  have hc' : ∀ o : Obj, (w.alloc o).cell? ⟨0, op.toNat * 4, none⟩ = some (.string ⟨#[83]⟩) := fun o => (World.cell?_alloc_lt _ _ _ hsz).trans hc
  have hf := fits_c z 12 12 rfl (by decide) (by decide)
  obtain ⟨b, hb⟩ : ∃ b, decide (sg z 12 = z) = b := ⟨_, rfl⟩
  rw [hb] at hf ⊢
  clear hb
  go_enter Tryd.func29, Tryd.ntmps29
  go_wp2_with (first | (go_at_call 39; refine (hf _).mono ?_; rintro e w' ⟨rfl, ⟨nd2, rfl⟩⟩))
  go_ret
  exact ⟨rfl, by repeat (first | exact Below.refl _ _ | apply below_alloc | apply pw_below_drewN | apply below_drew)⟩
set_option maxHeartbeats 1000000 in
set_option maxRecDepth 100000 in
theorem imm_By (op rd r1 r2 : Int) (h0 : 0 ≤ op) (h1 : op ≤ 42) (z : BitVec 64) (w : World) (hsz : 0 < w.heap.size) (hc : w.cell? ⟨0, op.toNat * 4, none⟩ = some (.string ⟨#[66]⟩)) (hy : sg z 13 = z) :
    Calls Tryd.prog 29 #[.agg #[.int .i64 op, .int .i64 rd, .int .i64 r1, .int .i64 r2, .int .i64 (S z)]] w fun e w' => e = .returned (.bool (Go.bits .and .i64 (S z) 1 == 0)) ∧ Below w.heap.size w w' := by
  have hc' : ∀ o : Obj, (w.alloc o).cell? ⟨0, op.toNat * 4, none⟩ = some (.string ⟨#[66]⟩) := fun o => (World.cell?_alloc_lt _ _ _ hsz).trans hc
  have hf := fits_c z 13 13 rfl (by decide) (by decide)
  rw [decide_eq_true hy] at hf
  clear hy
  go_enter Tryd.func29, Tryd.ntmps29
  go_wp2_with (first | (go_at_call 39; refine (hf _).mono ?_; rintro e w' ⟨rfl, ⟨nd2, rfl⟩⟩))
  go_ret
  exact ⟨rfl, by repeat (first | exact Below.refl _ _ | apply below_alloc | apply pw_below_drewN | apply below_drew)⟩
set_option maxHeartbeats 1000000 in
set_option maxRecDepth 100000 in
theorem imm_Bn (op rd r1 r2 : Int) (h0 : 0 ≤ op) (h1 : op ≤ 42) (z : BitVec 64) (w : World) (hsz : 0 < w.heap.size) (hc : w.cell? ⟨0, op.toNat * 4, none⟩ = some (.string ⟨#[66]⟩)) (hn : ¬ sg z 13 = z) :
    Calls Tryd.prog 29 #[.agg #[.int .i64 op, .int .i64 rd, .int .i64 r1, .int .i64 r2, .int .i64 (S z)]] w fun e w' => e = .returned (.bool (false)) ∧ Below w.heap.size w w' := by
  have hc' : ∀ o : Obj, (w.alloc o).cell? ⟨0, op.toNat * 4, none⟩ = some (.string ⟨#[66]⟩) := fun o => (World.cell?_alloc_lt _ _ _ hsz).trans hc
  have hf := fits_c z 13 13 rfl (by decide) (by decide)
  rw [decide_eq_false hn] at hf
  clear hn
  go_enter Tryd.func29, Tryd.ntmps29
  go_wp2_with (first | (go_at_call 39; refine (hf _).mono ?_; rintro e w' ⟨rfl, ⟨nd2, rfl⟩⟩))
  go_ret
  exact ⟨rfl, by repeat (first | exact Below.refl _ _ | apply below_alloc | apply pw_below_drewN | apply below_drew)⟩
set_option maxHeartbeats 1000000 in
set_option maxRecDepth 100000 in
theorem imm_Uy (op rd r1 r2 : Int) (h0 : 0 ≤ op) (h1 : op ≤ 42) (z : BitVec 64) (w : World) (hsz : 0 < w.heap.size) (hc : w.cell? ⟨0, op.toNat * 4, none⟩ = some (.string ⟨#[85]⟩)) (hy : sg z 32 = z) :
    Calls Tryd.prog 29 #[.agg #[.int .i64 op, .int .i64 rd, .int .i64 r1, .int .i64 r2, .int .i64 (S z)]] w fun e w' => e = .returned (.bool (Go.bits .and .i64 (S z) 4095 == 0)) ∧ Below w.heap.size w w' := by
  have hc' : ∀ o : Obj, (w.alloc o).cell? ⟨0, op.toNat * 4, none⟩ = some (.string ⟨#[85]⟩) := fun o => (World.cell?_alloc_lt _ _ _ hsz).trans hc
  have hf := fits_c z 32 32 rfl (by decide) (by decide)
  rw [decide_eq_true hy] at hf
  clear hy
  go_enter Tryd.func29, Tryd.ntmps29
  go_wp2_with (first | (go_at_call 39; refine (hf _).mono ?_; rintro e w' ⟨rfl, ⟨nd2, rfl⟩⟩))
  go_ret
  exact ⟨rfl, by repeat (first | exact Below.refl _ _ | apply below_alloc | apply pw_below_drewN | apply below_drew)⟩
set_option maxHeartbeats 1000000 in
set_option maxRecDepth 100000 in
theorem imm_Un (op rd r1 r2 : Int) (h0 : 0 ≤ op) (h1 : op ≤ 42) (z : BitVec 64) (w : World) (hsz : 0 < w.heap.size) (hc : w.cell? ⟨0, op.toNat * 4, none⟩ = some (.string ⟨#[85]⟩)) (hn : ¬ sg z 32 = z) :
    Calls Tryd.prog 29 #[.agg #[.int .i64 op, .int .i64 rd, .int .i64 r1, .int .i64 r2, .int .i64 (S z)]] w fun e w' => e = .returned (.bool (false)) ∧ Below w.heap.size w w' := by
  have hc' : ∀ o : Obj, (w.alloc o).cell? ⟨0, op.toNat * 4, none⟩ = some (.string ⟨#[85]⟩) := fun o => (World.cell?_alloc_lt _ _ _ hsz).trans hc
  have hf := fits_c z 32 32 rfl (by decide) (by decide)
  rw [decide_eq_false hn] at hf
  clear hn
  go_enter Tryd.func29, Tryd.ntmps29
  go_wp2_with (first | (go_at_call 39; refine (hf _).mono ?_; rintro e w' ⟨rfl, ⟨nd2, rfl⟩⟩))
  go_ret
  exact ⟨rfl, by repeat (first | exact Below.refl _ _ | apply below_alloc | apply pw_below_drewN | apply below_drew)⟩
set_option maxHeartbeats 1000000 in
set_option maxRecDepth 100000 in
theorem imm_Jy (op rd r1 r2 : Int) (h0 : 0 ≤ op) (h1 : op ≤ 42) (z : BitVec 64) (w : World) (hsz : 0 < w.heap.size) (hc : w.cell? ⟨0, op.toNat * 4, none⟩ = some (.string ⟨#[74]⟩)) (hy : sg z 21 = z) :
    Calls Tryd.prog 29 #[.agg #[.int .i64 op, .int .i64 rd, .int .i64 r1, .int .i64 r2, .int .i64 (S z)]] w fun e w' => e = .returned (.bool (Go.bits .and .i64 (S z) 1 == 0)) ∧ Below w.heap.size w w' := by
  have hc' : ∀ o : Obj, (w.alloc o).cell? ⟨0, op.toNat * 4, none⟩ = some (.string ⟨#[74]⟩) := fun o => (World.cell?_alloc_lt _ _ _ hsz).trans hc
  have hf := fits_c z 21 21 rfl (by decide) (by decide)
  rw [decide_eq_true hy] at hf
  clear hy
  go_enter Tryd.func29, Tryd.ntmps29
  go_wp2_with (first | (go_at_call 39; refine (hf _).mono ?_; rintro e w' ⟨rfl, ⟨nd2, rfl⟩⟩))
  go_ret
  exact ⟨rfl, by repeat (first | exact Below.refl _ _ | apply below_alloc | apply pw_below_drewN | apply below_drew)⟩
set_option maxHeartbeats 1000000 in
set_option maxRecDepth 100000 in
theorem imm_Jn (op rd r1 r2 : Int) (h0 : 0 ≤ op) (h1 : op ≤ 42) (z : BitVec 64) (w : World) (hsz : 0 < w.heap.size) (hc : w.cell? ⟨0, op.toNat * 4, none⟩ = some (.string ⟨#[74]⟩)) (hn : ¬ sg z 21 = z) :
    Calls Tryd.prog 29 #[.agg #[.int .i64 op, .int .i64 rd, .int .i64 r1, .int .i64 r2, .int .i64 (S z)]] w fun e w' => e = .returned (.bool (false)) ∧ Below w.heap.size w w' := by
  have hc' : ∀ o : Obj, (w.alloc o).cell? ⟨0, op.toNat * 4, none⟩ = some (.string ⟨#[74]⟩) := fun o => (World.cell?_alloc_lt _ _ _ hsz).trans hc
  have hf := fits_c z 21 21 rfl (by decide) (by decide)
  rw [decide_eq_false hn] at hf
  clear hn
  go_enter Tryd.func29, Tryd.ntmps29
  go_wp2_with (first | (go_at_call 39; refine (hf _).mono ?_; rintro e w' ⟨rfl, ⟨nd2, rfl⟩⟩))
  go_ret
  exact ⟨rfl, by repeat (first | exact Below.refl _ _ | apply below_alloc | apply pw_below_drewN | apply below_drew)⟩
set_option maxHeartbeats 1000000 in
set_option maxRecDepth 100000 in
theorem imm_R (op rd r1 r2 : Int) (h0 : 0 ≤ op) (h1 : op ≤ 42) (z : BitVec 64) (w : World) (hsz : 0 < w.heap.size) (hc : w.cell? ⟨0, op.toNat * 4, none⟩ = some (.string ⟨#[82]⟩)) :
    Calls Tryd.prog 29 #[.agg #[.int .i64 op, .int .i64 rd, .int .i64 r1, .int .i64 r2, .int .i64 (S z)]] w fun e w' => e = .returned (.bool (S z == 0)) ∧ Below w.heap.size w w' := by
  have hc' : ∀ o : Obj, (w.alloc o).cell? ⟨0, op.toNat * 4, none⟩ = some (.string ⟨#[82]⟩) := fun o => (World.cell?_alloc_lt _ _ _ hsz).trans hc
  go_enter Tryd.func29, Tryd.ntmps29
  go_wp2
  go_ret
  exact ⟨rfl, by repeat (first | exact Below.refl _ _ | apply below_alloc | apply pw_below_drewN | apply below_drew)⟩
set_option maxHeartbeats 1000000 in
set_option maxRecDepth 100000 in
theorem imm_E (op rd r1 r2 : Int) (h0 : 0 ≤ op) (h1 : op ≤ 42) (z : BitVec 64) (w : World) (hsz : 0 < w.heap.size) (hc : w.cell? ⟨0, op.toNat * 4, none⟩ = some (.string ⟨#[69]⟩)) :
    Calls Tryd.prog 29 #[.agg #[.int .i64 op, .int .i64 rd, .int .i64 r1, .int .i64 r2, .int .i64 (S z)]] w fun e w' => e = .returned (.bool (S z == 0)) ∧ Below w.heap.size w w' := by
  have hc' : ∀ o : Obj, (w.alloc o).cell? ⟨0, op.toNat * 4, none⟩ = some (.string ⟨#[69]⟩) := fun o => (World.cell?_alloc_lt _ _ _ hsz).trans hc
  go_enter Tryd.func29, Tryd.ntmps29
  go_wp2
  go_ret
  exact ⟨rfl, by repeat (first | exact Below.refl _ _ | apply below_alloc | apply pw_below_drewN | apply below_drew)⟩

end Go.Proofs.YtbdlhhajblhmiaaDoor.Ins
