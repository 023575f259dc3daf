/- What Encode of package ins comes to, form by form: contracts, walked. -/
import Derived.Test.YtbdlhhajblhmiaaDoorInsC
set_option linter.unusedVariables false
set_option linter.unusedSimpArgs false
namespace Go.Proofs.YtbdlhhajblhmiaaDoor.Ins
open Go Go.RowKit Go.Proofs Go.Proofs.YtbdlhhajblhmiaaDoorW.PrintWords Go.Proofs.YtbdlhhajblhmiaaDoor.Bv Go.Proofs.YtbdlhhajblhmiaaDoor.Bw Go.Proofs.YtbdlhhajblhmiaaDoor.BL Go.Proofs.YtbdlhhajblhmiaaDoor.QEncode

theorem field_c (v : BitVec 64) (f n : Int) (fn nn : Nat) (hf : f = fn) (hn : n = nn) (h : fn + nn ≤ 64) (w : World) :
    Calls Tryd.prog 20 #[.int .u64 (U v), .int .i64 f, .int .i64 n] w fun e w' => e = .returned (.tuple #[.int .u64 (U (fld v fn nn)), .bool true]) ∧ Drawn0 w w' := by
  refine bits_Field.calls (U v) f n _ _ w ?_
  subst hf hn
  have := field_yes v (f := (fn : Int)) (n := (nn : Int)) (by omega) (by omega) (by omega)
  rwa [Int.toNat_natCast, Int.toNat_natCast] at this
theorem put_c (v x : BitVec 64) (f n : Int) (fn nn : Nat) (hf : f = fn) (hn : n = nn) (h : fn + nn ≤ 64) (w : World) :
    Calls Tryd.prog 21 #[.int .u64 (U v), .int .i64 f, .int .i64 n, .int .u64 (U x)] w fun e w' => e = .returned (.tuple #[.int .u64 (U (pt v fn nn x)), .bool true]) ∧ Drawn0 w w' := by
  refine bits_Put.calls (U v) f n (U x) _ _ w ?_
  subst hf hn
  have := put_yes v x (f := (fn : Int)) (n := (nn : Int)) (by omega) (by omega) (by omega)
  rwa [Int.toNat_natCast, Int.toNat_natCast] at this
theorem parts_I (w : World) : Calls Tryd.prog 19 #[.string ⟨#[73]⟩] w fun e w' => e = .returned (.slice (some ⟨w.heap.size, 0, none⟩) 1 1) ∧ w' = w.alloc (.cells #[.int .i64 0, .int .i64 12, .int .i64 20] 48) := by
  go_enter Tryd.func19, Tryd.ntmps19
  go_wp2
  go_ret
  exact ⟨rfl, rfl⟩
theorem parts_S (w : World) : Calls Tryd.prog 19 #[.string ⟨#[83]⟩] w fun e w' => e = .returned (.slice (some ⟨w.heap.size, 0, none⟩) 2 2) ∧ w' = w.alloc (.cells #[.int .i64 0, .int .i64 5, .int .i64 7, .int .i64 5, .int .i64 7, .int .i64 25] 48) := by
  go_enter Tryd.func19, Tryd.ntmps19
  go_wp2
  go_ret
  exact ⟨rfl, rfl⟩
theorem parts_B (w : World) : Calls Tryd.prog 19 #[.string ⟨#[66]⟩] w fun e w' => e = .returned (.slice (some ⟨w.heap.size, 0, none⟩) 4 4) ∧ w' = w.alloc (.cells #[.int .i64 1, .int .i64 4, .int .i64 8, .int .i64 5, .int .i64 6, .int .i64 25, .int .i64 11, .int .i64 1, .int .i64 7, .int .i64 12, .int .i64 1, .int .i64 31] 48) := by
  go_enter Tryd.func19, Tryd.ntmps19
  go_wp2
  go_ret
  exact ⟨rfl, rfl⟩
theorem parts_U (w : World) : Calls Tryd.prog 19 #[.string ⟨#[85]⟩] w fun e w' => e = .returned (.slice (some ⟨w.heap.size, 0, none⟩) 1 1) ∧ w' = w.alloc (.cells #[.int .i64 12, .int .i64 20, .int .i64 12] 48) := by
  go_enter Tryd.func19, Tryd.ntmps19
  go_wp2
  go_ret
  exact ⟨rfl, rfl⟩
theorem parts_J (w : World) : Calls Tryd.prog 19 #[.string ⟨#[74]⟩] w fun e w' => e = .returned (.slice (some ⟨w.heap.size, 0, none⟩) 4 4) ∧ w' = w.alloc (.cells #[.int .i64 1, .int .i64 10, .int .i64 21, .int .i64 11, .int .i64 1, .int .i64 20, .int .i64 12, .int .i64 8, .int .i64 12, .int .i64 20, .int .i64 1, .int .i64 31] 48) := by
  go_enter Tryd.func19, Tryd.ntmps19
  go_wp2
  go_ret
  exact ⟨rfl, rfl⟩
theorem parts_R (w : World) : Calls Tryd.prog 19 #[.string ⟨#[82]⟩] w fun e w' => e = .returned (.slice none 0 0) ∧ w' = w := by
  go_enter Tryd.func19, Tryd.ntmps19
  go_wp2
  go_ret
  exact ⟨rfl, rfl⟩

/-- What lies in the boxed instruction, in a later world; and the table's row. -/
structure Box (w w1 : World) (op : Nat) (f : ByteArray) (c0 c1 c2 c3 c4 : Value) : Prop where
  lt : w.heap.size < w1.heap.size
  pos : 0 < w1.heap.size
  b0 : w1.cell? ⟨w.heap.size, 0, none⟩ = some c0
  b1 : w1.cell? ⟨w.heap.size, 1, none⟩ = some c1
  b2 : w1.cell? ⟨w.heap.size, 2, none⟩ = some c2
  b3 : w1.cell? ⟨w.heap.size, 3, none⟩ = some c3
  b4 : w1.cell? ⟨w.heap.size, 4, none⟩ = some c4
  r0 : w1.cell? ⟨0, op * 4, none⟩ = some (.string f)
  r1 : w1.cell? ⟨0, op * 4 + 1, none⟩ = some (.int .u64 (lo op))
  r2 : w1.cell? ⟨0, op * 4 + 2, none⟩ = some (.int .u64 (kd op))
  r3 : w1.cell? ⟨0, op * 4 + 3, none⟩ = some (.int .u64 (tp op))
  below : Below w.heap.size w w1
theorem box_of {w w1 : World} (L : Laid w) (op : Nat) (ho : op ≤ 42) (f : ByteArray) (hf : (fm op).s = f) (c0 c1 c2 c3 c4 : Value) (hb : Below (w.heap.size + 1) (w.alloc (.cells #[c0, c1, c2, c3, c4] 23)) w1) : Box w w1 op f c0 c1 c2 c3 c4 := by
  have hB : Below w.heap.size w w1 := ((Below.refl w.heap.size w).alloc (Nat.le_refl _) _).trans (hb.mono (Nat.le_succ _))
  have L1 := L.below hB
  have hs := hb.size
  simp at hs
  refine ⟨by omega, by omega, ?_, ?_, ?_, ?_, ?_, ?_, L1.low op ho, L1.kind op ho, L1.top op ho, hB⟩
  · exact (hb.cell (p := ⟨w.heap.size, 0, none⟩) (Nat.lt_succ_self _)).trans (by simp)
  · exact (hb.cell (p := ⟨w.heap.size, 1, none⟩) (Nat.lt_succ_self _)).trans (by simp)
  · exact (hb.cell (p := ⟨w.heap.size, 2, none⟩) (Nat.lt_succ_self _)).trans (by simp)
  · exact (hb.cell (p := ⟨w.heap.size, 3, none⟩) (Nat.lt_succ_self _)).trans (by simp)
  · exact (hb.cell (p := ⟨w.heap.size, 4, none⟩) (Nat.lt_succ_self _)).trans (by simp)
  · rw [← hf]; exact L1.form op ho
/-- The fixed fields of a word, put together as the code puts them. -/
def baseE (l rd k r1 r2 : Int) : Int := Go.bits .or .u64 (Go.bits .or .u64 (Go.bits .or .u64 (Go.bits .or .u64 l (IntKind.u64.wrap (IntKind.u64.wrap rd * 128))) (IntKind.u64.wrap (k * 4096))) (IntKind.u64.wrap (IntKind.u64.wrap r1 * 32768))) (IntKind.u64.wrap (IntKind.u64.wrap r2 * 1048576))
def baseW (l rd k r1 r2 : Int) : BitVec 64 := BitVec.ofInt 64 (baseE l rd k r1 r2)
theorem base_eq (l rd k r1 r2 : Int) : baseE l rd k r1 r2 = U (baseW l rd k r1 r2) := by
  unfold baseW
  rw [← wrapU]
  unfold baseE
  generalize Go.bits .or .u64 (Go.bits .or .u64 (Go.bits .or .u64 l _) _) _ = a
  generalize IntKind.u64.wrap (IntKind.u64.wrap r2 * 1048576) = b
  show IntKind.u64.wrap ((BitVec.ofInt 64 a ||| BitVec.ofInt 64 b).toNat : Int) = IntKind.u64.wrap (IntKind.u64.wrap ((BitVec.ofInt 64 a ||| BitVec.ofInt 64 b).toNat : Int))
  rw [wrapU, wrapUU]
theorem no_shift (op : Int) (h0 : 0 ≤ op) {f : Fm} (hf : fm op.toNat = f) (h : f ≠ .I) : ¬ (22 ≤ op ∧ op ≤ 24) := by
  rintro ⟨a, b⟩
  apply h
  rw [← hf]
  unfold fm
  rw [if_neg (by omega), if_pos (by omega)]
def headE (l rd : Int) : Int := Go.bits .or .u64 l (IntKind.u64.wrap (IntKind.u64.wrap rd * 128))
def headW (l rd : Int) : BitVec 64 := BitVec.ofInt 64 (headE l rd)
theorem head_eq (l rd : Int) : headE l rd = U (headW l rd) := by
  unfold headW
  rw [← wrapU]
  unfold headE
  generalize IntKind.u64.wrap (IntKind.u64.wrap rd * 128) = b
  show IntKind.u64.wrap ((BitVec.ofInt 64 l ||| BitVec.ofInt 64 b).toNat : Int) = IntKind.u64.wrap (IntKind.u64.wrap ((BitVec.ofInt 64 l ||| BitVec.ofInt 64 b).toNat : Int))
  rw [wrapU, wrapUU]
def shW (z : BitVec 64) (t : Int) : BitVec 64 := BitVec.ofInt 64 (Go.bits .or .u64 (U z) (IntKind.u64.wrap (t * 64)))
theorem sh_eq (z : BitVec 64) (t : Int) : Go.bits .or .u64 (U z) (IntKind.u64.wrap (t * 64)) = U (shW z t) := by
  unfold shW
  rw [← wrapU]
  generalize IntKind.u64.wrap (t * 64) = b
  show IntKind.u64.wrap ((BitVec.ofInt 64 (U z) ||| BitVec.ofInt 64 b).toNat : Int) = IntKind.u64.wrap (IntKind.u64.wrap ((BitVec.ofInt 64 (U z) ||| BitVec.ofInt 64 b).toNat : Int))
  rw [wrapU, wrapUU]
set_option maxHeartbeats 4000000 in
set_option maxRecDepth 100000 in
theorem enc_I (op rd r1 r2 : Int) (h0 : 0 ≤ op) (h1 : op ≤ 42) (z : BitVec 64) (w : World) (L : Laid w) (hf : fm op.toNat = .I) (hs : ¬ (22 ≤ op ∧ op ≤ 24)) (hm : mayF op rd r1 r2 z = true) :
    Calls Tryd.prog 10 #[insV op rd r1 r2 (S z)] w fun e w' => e = .returned (.tuple #[.int .u32 (IntKind.u32.wrap (U (pt (baseW (lo op.toNat) rd (kd op.toNat) r1 r2) 20 12 (fld z 0 12)))), .int .i64 0]) ∧ Below w.heap.size w w' := by
  have hsh := shift_c op
  rw [decide_eq_false hs] at hsh
  clear hs
  have hM : Calls Tryd.prog 12 #[insV op rd r1 r2 (S z)] (w.alloc (.cells #[.int .i64 op, .int .i64 rd, .int .i64 r1, .int .i64 r2, .int .i64 (S z)] 23)) fun e w' => e = .returned (.bool true) ∧ Below (w.heap.size + 1) (w.alloc (.cells #[.int .i64 op, .int .i64 rd, .int .i64 r1, .int .i64 r2, .int .i64 (S z)] 23)) w' := by
    have g := may_any op rd r1 r2 z _ (L.below ((Below.refl w.heap.size w).alloc (Nat.le_refl _) (.cells #[.int .i64 op, .int .i64 rd, .int .i64 r1, .int .i64 r2, .int .i64 (S z)] 23)))
    rw [hm] at g
    simpa using g
  clear hm
  have hW := base_eq (lo op.toNat) rd (kd op.toNat) r1 r2
  obtain ⟨W0, hW0⟩ : ∃ W0, baseW (lo op.toNat) rd (kd op.toNat) r1 r2 = W0 := ⟨_, rfl⟩
  rw [hW0] at hW ⊢
  clear hW0
  unfold baseE at hW
  have hu := wrapUS z
  go_enter Tryd.func10, Tryd.ntmps10
  go_wp2_with (first | (go_at_call 12; refine hM.mono ?_; rintro e w1 ⟨rfl, hb⟩; have X := box_of L op.toNat (by omega) ⟨#[73]⟩ (by rw [hf]; rfl) _ _ _ _ _ hb; have x0 := X.lt; have x1 := X.pos; have x2 := X.b0; have x3 := X.b1; have x4 := X.b2; have x5 := X.b3; have x6 := X.b4; have x7 := X.r0; have x8 := X.r1; have x9 := X.r2; have x10 := X.r3; clear hb hM hf) | (go_at_call 18; refine (hsh _).mono ?_; rintro e w' ⟨rfl, ⟨nd, rfl⟩⟩) | (go_at_call 19; refine (parts_I _).mono ?_; rintro e w' ⟨rfl, rfl⟩))
  refine wp_loop_rounds 2 ?_
  rw [rounds_succ]
  go_wp2_with (first | (go_at_call 20; refine (field_c _ _ _ 0 12 rfl rfl (by decide) _).mono ?_; rintro e w' ⟨rfl, ⟨nd, rfl⟩⟩) | (go_at_call 21; refine (put_c _ _ _ _ 20 12 rfl rfl (by decide) _).mono ?_; rintro e w' ⟨rfl, ⟨nd2, rfl⟩⟩))
  rw [rounds_succ]
  go_wp2
  go_ret2
  exact ⟨rfl, by repeat (first | exact X.below | apply below_alloc | apply pw_below_drewN | apply below_drew)⟩
set_option maxHeartbeats 4000000 in
set_option maxRecDepth 100000 in
theorem enc_Ish (op rd r1 r2 : Int) (h0 : 0 ≤ op) (h1 : op ≤ 42) (z : BitVec 64) (w : World) (L : Laid w) (hf : fm op.toNat = .I) (hs : 22 ≤ op ∧ op ≤ 24) (hm : mayF op rd r1 r2 z = true) :
    Calls Tryd.prog 10 #[insV op rd r1 r2 (S z)] w fun e w' => e = .returned (.tuple #[.int .u32 (IntKind.u32.wrap (U (pt (baseW (lo op.toNat) rd (kd op.toNat) r1 r2) 20 12 (fld (shW z (tp op.toNat)) 0 12)))), .int .i64 0]) ∧ Below w.heap.size w w' := by
  have hsh := shift_c op
  rw [decide_eq_true hs] at hsh
  clear hs
  have hM : Calls Tryd.prog 12 #[insV op rd r1 r2 (S z)] (w.alloc (.cells #[.int .i64 op, .int .i64 rd, .int .i64 r1, .int .i64 r2, .int .i64 (S z)] 23)) fun e w' => e = .returned (.bool true) ∧ Below (w.heap.size + 1) (w.alloc (.cells #[.int .i64 op, .int .i64 rd, .int .i64 r1, .int .i64 r2, .int .i64 (S z)] 23)) w' := by
    have g := may_any op rd r1 r2 z _ (L.below ((Below.refl w.heap.size w).alloc (Nat.le_refl _) (.cells #[.int .i64 op, .int .i64 rd, .int .i64 r1, .int .i64 r2, .int .i64 (S z)] 23)))
    rw [hm] at g
    simpa using g
  clear hm
  have hW := base_eq (lo op.toNat) rd (kd op.toNat) r1 r2
  obtain ⟨W0, hW0⟩ : ∃ W0, baseW (lo op.toNat) rd (kd op.toNat) r1 r2 = W0 := ⟨_, rfl⟩
  rw [hW0] at hW ⊢
  clear hW0
  unfold baseE at hW
  have hS := sh_eq z (tp op.toNat)
  obtain ⟨Z1, hZ1⟩ : ∃ Z1, shW z (tp op.toNat) = Z1 := ⟨_, rfl⟩
  rw [hZ1] at hS ⊢
  clear hZ1
  have hu := wrapUS z
  go_enter Tryd.func10, Tryd.ntmps10
  go_wp2_with (first | (go_at_call 12; refine hM.mono ?_; rintro e w1 ⟨rfl, hb⟩; have X := box_of L op.toNat (by omega) ⟨#[73]⟩ (by rw [hf]; rfl) _ _ _ _ _ hb; have x0 := X.lt; have x1 := X.pos; have x2 := X.b0; have x3 := X.b1; have x4 := X.b2; have x5 := X.b3; have x6 := X.b4; have x7 := X.r0; have x8 := X.r1; have x9 := X.r2; have x10 := X.r3; clear hb hM hf) | (go_at_call 18; refine (hsh _).mono ?_; rintro e w' ⟨rfl, ⟨nd, rfl⟩⟩) | (go_at_call 19; refine (parts_I _).mono ?_; rintro e w' ⟨rfl, rfl⟩))
  refine wp_loop_rounds 2 ?_
  rw [rounds_succ]
  go_wp2_with (first | (go_at_call 20; refine (field_c _ _ _ 0 12 rfl rfl (by decide) _).mono ?_; rintro e w' ⟨rfl, ⟨nd, rfl⟩⟩) | (go_at_call 21; refine (put_c _ _ _ _ 20 12 rfl rfl (by decide) _).mono ?_; rintro e w' ⟨rfl, ⟨nd2, rfl⟩⟩))
  rw [rounds_succ]
  go_wp2
  go_ret2
  exact ⟨rfl, by repeat (first | exact X.below | apply below_alloc | apply pw_below_drewN | apply below_drew)⟩
set_option maxHeartbeats 4000000 in
set_option maxRecDepth 100000 in
theorem enc_R (op rd r1 r2 : Int) (h0 : 0 ≤ op) (h1 : op ≤ 42) (z : BitVec 64) (w : World) (L : Laid w) (hf : fm op.toNat = .R) (hm : mayF op rd r1 r2 z = true) :
    Calls Tryd.prog 10 #[insV op rd r1 r2 (S z)] w fun e w' => e = .returned (.tuple #[.int .u32 (IntKind.u32.wrap (Go.bits .or .u64 (U (baseW (lo op.toNat) rd (kd op.toNat) r1 r2)) (IntKind.u64.wrap ((tp op.toNat : Int) * 33554432)))), .int .i64 0]) ∧ Below w.heap.size w w' := by
  have hM : Calls Tryd.prog 12 #[insV op rd r1 r2 (S z)] (w.alloc (.cells #[.int .i64 op, .int .i64 rd, .int .i64 r1, .int .i64 r2, .int .i64 (S z)] 23)) fun e w' => e = .returned (.bool true) ∧ Below (w.heap.size + 1) (w.alloc (.cells #[.int .i64 op, .int .i64 rd, .int .i64 r1, .int .i64 r2, .int .i64 (S z)] 23)) w' := by
    have g := may_any op rd r1 r2 z _ (L.below ((Below.refl w.heap.size w).alloc (Nat.le_refl _) (.cells #[.int .i64 op, .int .i64 rd, .int .i64 r1, .int .i64 r2, .int .i64 (S z)] 23)))
    rw [hm] at g
    simpa using g
  clear hm
  have hW := base_eq (lo op.toNat) rd (kd op.toNat) r1 r2
  obtain ⟨W0, hW0⟩ : ∃ W0, baseW (lo op.toNat) rd (kd op.toNat) r1 r2 = W0 := ⟨_, rfl⟩
  rw [hW0] at hW ⊢
  clear hW0
  unfold baseE at hW
  go_enter Tryd.func10, Tryd.ntmps10
  go_wp2_with (first | (go_at_call 12; refine hM.mono ?_; rintro e w1 ⟨rfl, hb⟩; have X := box_of L op.toNat (by omega) ⟨#[82]⟩ (by rw [hf]; rfl) _ _ _ _ _ hb; have x0 := X.lt; have x1 := X.pos; have x2 := X.b0; have x3 := X.b1; have x4 := X.b2; have x5 := X.b3; have x6 := X.b4; have x7 := X.r0; have x8 := X.r1; have x9 := X.r2; have x10 := X.r3; clear hb hM hf) | (go_at_call 19; refine (parts_R _).mono ?_; rintro e w' ⟨rfl, rfl⟩))
  refine wp_loop_rounds 1 ?_
  rw [rounds_succ]
  go_wp2
  go_ret2
  exact ⟨rfl, by repeat (first | exact X.below | apply below_alloc | apply pw_below_drewN | apply below_drew)⟩
set_option maxHeartbeats 4000000 in
set_option maxRecDepth 100000 in
theorem enc_S (op rd r1 r2 : Int) (h0 : 0 ≤ op) (h1 : op ≤ 42) (z : BitVec 64) (w : World) (L : Laid w) (hf : fm op.toNat = .S) (hm : mayF op rd r1 r2 z = true) :
    Calls Tryd.prog 10 #[insV op rd r1 r2 (S z)] w fun e w' => e = .returned (.tuple #[.int .u32 (IntKind.u32.wrap (U (pt (pt (baseW (lo op.toNat) rd (kd op.toNat) r1 r2) 7 5 (fld z 0 5)) 25 7 (fld z 5 7)))), .int .i64 0]) ∧ Below w.heap.size w w' := by
  have hsh := shift_c op
  rw [decide_eq_false (no_shift op h0 hf (by decide))] at hsh
  have hM : Calls Tryd.prog 12 #[insV op rd r1 r2 (S z)] (w.alloc (.cells #[.int .i64 op, .int .i64 rd, .int .i64 r1, .int .i64 r2, .int .i64 (S z)] 23)) fun e w' => e = .returned (.bool true) ∧ Below (w.heap.size + 1) (w.alloc (.cells #[.int .i64 op, .int .i64 rd, .int .i64 r1, .int .i64 r2, .int .i64 (S z)] 23)) w' := by
    have g := may_any op rd r1 r2 z _ (L.below ((Below.refl w.heap.size w).alloc (Nat.le_refl _) (.cells #[.int .i64 op, .int .i64 rd, .int .i64 r1, .int .i64 r2, .int .i64 (S z)] 23)))
    rw [hm] at g
    simpa using g
  clear hm
  have hW := base_eq (lo op.toNat) rd (kd op.toNat) r1 r2
  obtain ⟨W0, hW0⟩ : ∃ W0, baseW (lo op.toNat) rd (kd op.toNat) r1 r2 = W0 := ⟨_, rfl⟩
  rw [hW0] at hW ⊢
  clear hW0
  unfold baseE at hW
  have hu := wrapUS z
  go_enter Tryd.func10, Tryd.ntmps10
  go_wp2_with (first | (go_at_call 12; refine hM.mono ?_; rintro e w1 ⟨rfl, hb⟩; have X := box_of L op.toNat (by omega) ⟨#[83]⟩ (by rw [hf]; rfl) _ _ _ _ _ hb; have x0 := X.lt; have x1 := X.pos; have x2 := X.b0; have x3 := X.b1; have x4 := X.b2; have x5 := X.b3; have x6 := X.b4; have x7 := X.r0; have x8 := X.r1; have x9 := X.r2; have x10 := X.r3; clear hb hM hf) | (go_at_call 18; refine (hsh _).mono ?_; rintro e w' ⟨rfl, ⟨nd, rfl⟩⟩) | (go_at_call 19; refine (parts_S _).mono ?_; rintro e w' ⟨rfl, rfl⟩))
  refine wp_loop_rounds 3 ?_
  rw [rounds_succ]
  go_wp2_with (first | (go_at_call 20; refine (field_c _ _ _ 0 5 rfl rfl (by decide) _).mono ?_; rintro e w' ⟨rfl, ⟨nd, rfl⟩⟩) | (go_at_call 21; refine (put_c _ _ _ _ 7 5 rfl rfl (by decide) _).mono ?_; rintro e w' ⟨rfl, ⟨nd2, rfl⟩⟩))
  rw [rounds_succ]
  go_wp2_with (first | (go_at_call 20; refine (field_c _ _ _ 5 7 rfl rfl (by decide) _).mono ?_; rintro e w' ⟨rfl, ⟨nd, rfl⟩⟩) | (go_at_call 21; refine (put_c _ _ _ _ 25 7 rfl rfl (by decide) _).mono ?_; rintro e w' ⟨rfl, ⟨nd2, rfl⟩⟩))
  rw [rounds_succ]
  go_wp2
  go_ret2
  exact ⟨rfl, by repeat (first | exact X.below | apply below_alloc | apply pw_below_drewN | apply below_drew)⟩
set_option maxHeartbeats 4000000 in
set_option maxRecDepth 100000 in
theorem enc_B (op rd r1 r2 : Int) (h0 : 0 ≤ op) (h1 : op ≤ 42) (z : BitVec 64) (w : World) (L : Laid w) (hf : fm op.toNat = .B) (hm : mayF op rd r1 r2 z = true) :
    Calls Tryd.prog 10 #[insV op rd r1 r2 (S z)] w fun e w' => e = .returned (.tuple #[.int .u32 (IntKind.u32.wrap (U (pt (pt (pt (pt (baseW (lo op.toNat) rd (kd op.toNat) r1 r2) 8 4 (fld z 1 4)) 25 6 (fld z 5 6)) 7 1 (fld z 11 1)) 31 1 (fld z 12 1)))), .int .i64 0]) ∧ Below w.heap.size w w' := by
  have hsh := shift_c op
  rw [decide_eq_false (no_shift op h0 hf (by decide))] at hsh
  have hM : Calls Tryd.prog 12 #[insV op rd r1 r2 (S z)] (w.alloc (.cells #[.int .i64 op, .int .i64 rd, .int .i64 r1, .int .i64 r2, .int .i64 (S z)] 23)) fun e w' => e = .returned (.bool true) ∧ Below (w.heap.size + 1) (w.alloc (.cells #[.int .i64 op, .int .i64 rd, .int .i64 r1, .int .i64 r2, .int .i64 (S z)] 23)) w' := by
    have g := may_any op rd r1 r2 z _ (L.below ((Below.refl w.heap.size w).alloc (Nat.le_refl _) (.cells #[.int .i64 op, .int .i64 rd, .int .i64 r1, .int .i64 r2, .int .i64 (S z)] 23)))
    rw [hm] at g
    simpa using g
  clear hm
  have hW := base_eq (lo op.toNat) rd (kd op.toNat) r1 r2
  obtain ⟨W0, hW0⟩ : ∃ W0, baseW (lo op.toNat) rd (kd op.toNat) r1 r2 = W0 := ⟨_, rfl⟩
  rw [hW0] at hW ⊢
  clear hW0
  unfold baseE at hW
  have hu := wrapUS z
  go_enter Tryd.func10, Tryd.ntmps10
  go_wp2_with (first | (go_at_call 12; refine hM.mono ?_; rintro e w1 ⟨rfl, hb⟩; have X := box_of L op.toNat (by omega) ⟨#[66]⟩ (by rw [hf]; rfl) _ _ _ _ _ hb; have x0 := X.lt; have x1 := X.pos; have x2 := X.b0; have x3 := X.b1; have x4 := X.b2; have x5 := X.b3; have x6 := X.b4; have x7 := X.r0; have x8 := X.r1; have x9 := X.r2; have x10 := X.r3; clear hb hM hf) | (go_at_call 18; refine (hsh _).mono ?_; rintro e w' ⟨rfl, ⟨nd, rfl⟩⟩) | (go_at_call 19; refine (parts_B _).mono ?_; rintro e w' ⟨rfl, rfl⟩))
  refine wp_loop_rounds 5 ?_
  rw [rounds_succ]
  go_wp2_with (first | (go_at_call 20; refine (field_c _ _ _ 1 4 rfl rfl (by decide) _).mono ?_; rintro e w' ⟨rfl, ⟨nd, rfl⟩⟩) | (go_at_call 21; refine (put_c _ _ _ _ 8 4 rfl rfl (by decide) _).mono ?_; rintro e w' ⟨rfl, ⟨nd2, rfl⟩⟩))
  rw [rounds_succ]
  go_wp2_with (first | (go_at_call 20; refine (field_c _ _ _ 5 6 rfl rfl (by decide) _).mono ?_; rintro e w' ⟨rfl, ⟨nd, rfl⟩⟩) | (go_at_call 21; refine (put_c _ _ _ _ 25 6 rfl rfl (by decide) _).mono ?_; rintro e w' ⟨rfl, ⟨nd2, rfl⟩⟩))
  rw [rounds_succ]
  go_wp2_with (first | (go_at_call 20; refine (field_c _ _ _ 11 1 rfl rfl (by decide) _).mono ?_; rintro e w' ⟨rfl, ⟨nd, rfl⟩⟩) | (go_at_call 21; refine (put_c _ _ _ _ 7 1 rfl rfl (by decide) _).mono ?_; rintro e w' ⟨rfl, ⟨nd2, rfl⟩⟩))
  rw [rounds_succ]
  go_wp2_with (first | (go_at_call 20; refine (field_c _ _ _ 12 1 rfl rfl (by decide) _).mono ?_; rintro e w' ⟨rfl, ⟨nd, rfl⟩⟩) | (go_at_call 21; refine (put_c _ _ _ _ 31 1 rfl rfl (by decide) _).mono ?_; rintro e w' ⟨rfl, ⟨nd2, rfl⟩⟩))
  rw [rounds_succ]
  go_wp2
  go_ret2
  exact ⟨rfl, by repeat (first | exact X.below | apply below_alloc | apply pw_below_drewN | apply below_drew)⟩
set_option maxHeartbeats 4000000 in
set_option maxRecDepth 100000 in
theorem enc_U (op rd r1 r2 : Int) (h0 : 0 ≤ op) (h1 : op ≤ 42) (z : BitVec 64) (w : World) (L : Laid w) (hf : fm op.toNat = .U) (hm : mayF op rd r1 r2 z = true) :
    Calls Tryd.prog 10 #[insV op rd r1 r2 (S z)] w fun e w' => e = .returned (.tuple #[.int .u32 (IntKind.u32.wrap (U (pt (headW (lo op.toNat) rd) 12 20 (fld z 12 20)))), .int .i64 0]) ∧ Below w.heap.size w w' := by
  have hsh := shift_c op
  rw [decide_eq_false (no_shift op h0 hf (by decide))] at hsh
  have hM : Calls Tryd.prog 12 #[insV op rd r1 r2 (S z)] (w.alloc (.cells #[.int .i64 op, .int .i64 rd, .int .i64 r1, .int .i64 r2, .int .i64 (S z)] 23)) fun e w' => e = .returned (.bool true) ∧ Below (w.heap.size + 1) (w.alloc (.cells #[.int .i64 op, .int .i64 rd, .int .i64 r1, .int .i64 r2, .int .i64 (S z)] 23)) w' := by
    have g := may_any op rd r1 r2 z _ (L.below ((Below.refl w.heap.size w).alloc (Nat.le_refl _) (.cells #[.int .i64 op, .int .i64 rd, .int .i64 r1, .int .i64 r2, .int .i64 (S z)] 23)))
    rw [hm] at g
    simpa using g
  clear hm
  have hW := base_eq (lo op.toNat) rd (kd op.toNat) r1 r2
  obtain ⟨W0, hW0⟩ : ∃ W0, baseW (lo op.toNat) rd (kd op.toNat) r1 r2 = W0 := ⟨_, rfl⟩
  rw [hW0] at hW
  have hW2 := head_eq (lo op.toNat) rd
  obtain ⟨W2, hW3⟩ : ∃ W2, headW (lo op.toNat) rd = W2 := ⟨_, rfl⟩
  rw [hW3] at hW2 ⊢
  clear hW0 hW3
  clear hW
  unfold headE at hW2
  have hu := wrapUS z
  go_enter Tryd.func10, Tryd.ntmps10
  go_wp2_with (first | (go_at_call 12; refine hM.mono ?_; rintro e w1 ⟨rfl, hb⟩; have X := box_of L op.toNat (by omega) ⟨#[85]⟩ (by rw [hf]; rfl) _ _ _ _ _ hb; have x0 := X.lt; have x1 := X.pos; have x2 := X.b0; have x3 := X.b1; have x4 := X.b2; have x5 := X.b3; have x6 := X.b4; have x7 := X.r0; have x8 := X.r1; have x9 := X.r2; have x10 := X.r3; clear hb hM hf) | (go_at_call 18; refine (hsh _).mono ?_; rintro e w' ⟨rfl, ⟨nd, rfl⟩⟩) | (go_at_call 19; refine (parts_U _).mono ?_; rintro e w' ⟨rfl, rfl⟩))
  refine wp_loop_rounds 2 ?_
  rw [rounds_succ]
  go_wp2_with (first | (go_at_call 20; refine (field_c _ _ _ 12 20 rfl rfl (by decide) _).mono ?_; rintro e w' ⟨rfl, ⟨nd, rfl⟩⟩) | (go_at_call 21; refine (put_c _ _ _ _ 12 20 rfl rfl (by decide) _).mono ?_; rintro e w' ⟨rfl, ⟨nd2, rfl⟩⟩))
  rw [rounds_succ]
  go_wp2
  go_ret2
  exact ⟨rfl, by repeat (first | exact X.below | apply below_alloc | apply pw_below_drewN | apply below_drew)⟩
set_option maxHeartbeats 4000000 in
set_option maxRecDepth 100000 in
theorem enc_J (op rd r1 r2 : Int) (h0 : 0 ≤ op) (h1 : op ≤ 42) (z : BitVec 64) (w : World) (L : Laid w) (hf : fm op.toNat = .J) (hm : mayF op rd r1 r2 z = true) :
    Calls Tryd.prog 10 #[insV op rd r1 r2 (S z)] w fun e w' => e = .returned (.tuple #[.int .u32 (IntKind.u32.wrap (U (pt (pt (pt (pt (headW (lo op.toNat) rd) 21 10 (fld z 1 10)) 20 1 (fld z 11 1)) 12 8 (fld z 12 8)) 31 1 (fld z 20 1)))), .int .i64 0]) ∧ Below w.heap.size w w' := by
  have hsh := shift_c op
  rw [decide_eq_false (no_shift op h0 hf (by decide))] at hsh
  have hM : Calls Tryd.prog 12 #[insV op rd r1 r2 (S z)] (w.alloc (.cells #[.int .i64 op, .int .i64 rd, .int .i64 r1, .int .i64 r2, .int .i64 (S z)] 23)) fun e w' => e = .returned (.bool true) ∧ Below (w.heap.size + 1) (w.alloc (.cells #[.int .i64 op, .int .i64 rd, .int .i64 r1, .int .i64 r2, .int .i64 (S z)] 23)) w' := by
    have g := may_any op rd r1 r2 z _ (L.below ((Below.refl w.heap.size w).alloc (Nat.le_refl _) (.cells #[.int .i64 op, .int .i64 rd, .int .i64 r1, .int .i64 r2, .int .i64 (S z)] 23)))
    rw [hm] at g
    simpa using g
  clear hm
  have hW := base_eq (lo op.toNat) rd (kd op.toNat) r1 r2
  obtain ⟨W0, hW0⟩ : ∃ W0, baseW (lo op.toNat) rd (kd op.toNat) r1 r2 = W0 := ⟨_, rfl⟩
  rw [hW0] at hW
  have hW2 := head_eq (lo op.toNat) rd
  obtain ⟨W2, hW3⟩ : ∃ W2, headW (lo op.toNat) rd = W2 := ⟨_, rfl⟩
  rw [hW3] at hW2 ⊢
  clear hW0 hW3
  clear hW
  unfold headE at hW2
  have hu := wrapUS z
  go_enter Tryd.func10, Tryd.ntmps10
  go_wp2_with (first | (go_at_call 12; refine hM.mono ?_; rintro e w1 ⟨rfl, hb⟩; have X := box_of L op.toNat (by omega) ⟨#[74]⟩ (by rw [hf]; rfl) _ _ _ _ _ hb; have x0 := X.lt; have x1 := X.pos; have x2 := X.b0; have x3 := X.b1; have x4 := X.b2; have x5 := X.b3; have x6 := X.b4; have x7 := X.r0; have x8 := X.r1; have x9 := X.r2; have x10 := X.r3; clear hb hM hf) | (go_at_call 18; refine (hsh _).mono ?_; rintro e w' ⟨rfl, ⟨nd, rfl⟩⟩) | (go_at_call 19; refine (parts_J _).mono ?_; rintro e w' ⟨rfl, rfl⟩))
  refine wp_loop_rounds 5 ?_
  rw [rounds_succ]
  go_wp2_with (first | (go_at_call 20; refine (field_c _ _ _ 1 10 rfl rfl (by decide) _).mono ?_; rintro e w' ⟨rfl, ⟨nd, rfl⟩⟩) | (go_at_call 21; refine (put_c _ _ _ _ 21 10 rfl rfl (by decide) _).mono ?_; rintro e w' ⟨rfl, ⟨nd2, rfl⟩⟩))
  rw [rounds_succ]
  go_wp2_with (first | (go_at_call 20; refine (field_c _ _ _ 11 1 rfl rfl (by decide) _).mono ?_; rintro e w' ⟨rfl, ⟨nd, rfl⟩⟩) | (go_at_call 21; refine (put_c _ _ _ _ 20 1 rfl rfl (by decide) _).mono ?_; rintro e w' ⟨rfl, ⟨nd2, rfl⟩⟩))
  rw [rounds_succ]
  go_wp2_with (first | (go_at_call 20; refine (field_c _ _ _ 12 8 rfl rfl (by decide) _).mono ?_; rintro e w' ⟨rfl, ⟨nd, rfl⟩⟩) | (go_at_call 21; refine (put_c _ _ _ _ 12 8 rfl rfl (by decide) _).mono ?_; rintro e w' ⟨rfl, ⟨nd2, rfl⟩⟩))
  rw [rounds_succ]
  go_wp2_with (first | (go_at_call 20; refine (field_c _ _ _ 20 1 rfl rfl (by decide) _).mono ?_; rintro e w' ⟨rfl, ⟨nd, rfl⟩⟩) | (go_at_call 21; refine (put_c _ _ _ _ 31 1 rfl rfl (by decide) _).mono ?_; rintro e w' ⟨rfl, ⟨nd2, rfl⟩⟩))
  rw [rounds_succ]
  go_wp2
  go_ret2
  exact ⟨rfl, by repeat (first | exact X.below | apply below_alloc | apply pw_below_drewN | apply below_drew)⟩
set_option maxHeartbeats 4000000 in
set_option maxRecDepth 100000 in
theorem enc_E (op rd r1 r2 : Int) (h0 : 0 ≤ op) (h1 : op ≤ 42) (z : BitVec 64) (w : World) (L : Laid w) (hf : fm op.toNat = .E) (hm : mayF op rd r1 r2 z = true) :
    Calls Tryd.prog 10 #[insV op rd r1 r2 (S z)] w fun e w' => e = .returned (.tuple #[.int .u32 (1048691), .int .i64 0]) ∧ Below w.heap.size w w' := by
  have hM : Calls Tryd.prog 12 #[insV op rd r1 r2 (S z)] (w.alloc (.cells #[.int .i64 op, .int .i64 rd, .int .i64 r1, .int .i64 r2, .int .i64 (S z)] 23)) fun e w' => e = .returned (.bool true) ∧ Below (w.heap.size + 1) (w.alloc (.cells #[.int .i64 op, .int .i64 rd, .int .i64 r1, .int .i64 r2, .int .i64 (S z)] 23)) w' := by
    have g := may_any op rd r1 r2 z _ (L.below ((Below.refl w.heap.size w).alloc (Nat.le_refl _) (.cells #[.int .i64 op, .int .i64 rd, .int .i64 r1, .int .i64 r2, .int .i64 (S z)] 23)))
    rw [hm] at g
    simpa using g
  clear hm
  go_enter Tryd.func10, Tryd.ntmps10
  go_wp2_with (first | (go_at_call 12; refine hM.mono ?_; rintro e w1 ⟨rfl, hb⟩; have X := box_of L op.toNat (by omega) ⟨#[69]⟩ (by rw [hf]; rfl) _ _ _ _ _ hb; have x0 := X.lt; have x1 := X.pos; have x2 := X.b0; have x3 := X.b1; have x4 := X.b2; have x5 := X.b3; have x6 := X.b4; have x7 := X.r0; have x8 := X.r1; have x9 := X.r2; have x10 := X.r3; clear hb hM hf))
  go_ret2
  exact ⟨rfl, by repeat (first | exact X.below | apply below_alloc | apply pw_below_drewN | apply below_drew)⟩
set_option maxHeartbeats 4000000 in
set_option maxRecDepth 100000 in
theorem enc_no (op rd r1 r2 : Int) (z : BitVec 64) (w : World) (L : Laid w) (hm : mayF op rd r1 r2 z = false) :
    Calls Tryd.prog 10 #[insV op rd r1 r2 (S z)] w fun e w' => e = .returned (.tuple #[.int .u32 0, .int .i64 1]) ∧ Below w.heap.size w w' := by
  have hM : Calls Tryd.prog 12 #[insV op rd r1 r2 (S z)] (w.alloc (.cells #[.int .i64 op, .int .i64 rd, .int .i64 r1, .int .i64 r2, .int .i64 (S z)] 23)) fun e w' => e = .returned (.bool false) ∧ Below (w.heap.size + 1) (w.alloc (.cells #[.int .i64 op, .int .i64 rd, .int .i64 r1, .int .i64 r2, .int .i64 (S z)] 23)) w' := by
    have g := may_any op rd r1 r2 z _ (L.below ((Below.refl w.heap.size w).alloc (Nat.le_refl _) (.cells #[.int .i64 op, .int .i64 rd, .int .i64 r1, .int .i64 r2, .int .i64 (S z)] 23)))
    rw [hm] at g
    simpa using g
  clear hm
  have B1 : ∀ w1, Below (w.heap.size + 1) (w.alloc (.cells #[.int .i64 op, .int .i64 rd, .int .i64 r1, .int .i64 r2, .int .i64 (S z)] 23)) w1 → Below w.heap.size w w1 := fun w1 hb => ((Below.refl w.heap.size w).alloc (Nat.le_refl _) _).trans (hb.mono (Nat.le_succ _))
  go_enter Tryd.func10, Tryd.ntmps10
  go_wp2_with (go_at_call 12; refine hM.mono ?_; rintro e w1 ⟨rfl, hb⟩)
  go_ret2
  exact ⟨rfl, B1 _ hb⟩

end Go.Proofs.YtbdlhhajblhmiaaDoor.Ins
