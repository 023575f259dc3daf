/- The contracts of package ins, each in one: Form, May, Encode, Decode. -/
import Derived.Test.YtbdlhhajblhmiaaDoorInsL
set_option linter.unusedVariables false
set_option linter.unusedSimpArgs false
namespace Go.Proofs.YtbdlhhajblhmiaaDoor.Ins
open Go Go.RowKit Go.Proofs Go.Proofs.YtbdlhhajblhmiaaDoorW.PrintWords Go.Proofs.YtbdlhhajblhmiaaDoor.Bv Go.Proofs.YtbdlhhajblhmiaaDoor.Bw Go.Proofs.YtbdlhhajblhmiaaDoor.BL Go.Proofs.YtbdlhhajblhmiaaDoor.QEncode Go.Maps

theorem form_calls (a0 : Int) (r : ByteArray) (w : World) (h : some (formF a0) = some r) (L : Laid w) :
    Calls Tryd.prog 14 #[.int .i64 a0] w fun e w' => e = .returned (.string r) ∧ Drawn0 w w' := by
  injection h with h
  subst h
  refine (form_any a0 w L).mono ?_
  rintro e w' ⟨rfl, rfl⟩
  exact ⟨rfl, Drawn0.refl _⟩
def mayO (a0 a1 a2 a3 a4 : Int) : Option Bool := if S (BitVec.ofInt 64 a4) = a4 then some (mayF a0 a1 a2 a3 (BitVec.ofInt 64 a4)) else none
theorem may_calls (a0 a1 a2 a3 a4 : Int) (r : Bool) (w : World) (h : mayO a0 a1 a2 a3 a4 = some r) (L : Laid w) :
    Calls Tryd.prog 12 #[insV a0 a1 a2 a3 a4] w fun e w' => e = .returned (.bool r) ∧ Below w.heap.size w w' := by
  unfold mayO at h
  by_cases e : S (BitVec.ofInt 64 a4) = a4
  · rw [if_pos e] at h
    injection h with h
    subst h
    have g := may_any a0 a1 a2 a3 (BitVec.ofInt 64 a4) w L
    rwa [e] at g
  · rw [if_neg e] at h; cases h
/-- An instruction's word, by its form. -/
def encV (op rd r1 r2 : Int) (z : BitVec 64) : Int :=
  match fm op.toNat with
  | .R => IntKind.u32.wrap (Go.bits .or .u64 (U (baseW (lo op.toNat) rd (kd op.toNat) r1 r2)) (IntKind.u64.wrap ((tp op.toNat : Int) * 33554432)))
  | .I => if 22 ≤ op ∧ op ≤ 24 then IntKind.u32.wrap (U (pt (baseW (lo op.toNat) rd (kd op.toNat) r1 r2) 20 12 (fld (shW z (tp op.toNat)) 0 12))) else IntKind.u32.wrap (U (pt (baseW (lo op.toNat) rd (kd op.toNat) r1 r2) 20 12 (fld z 0 12)))
  | .S => IntKind.u32.wrap (U (pt (pt (baseW (lo op.toNat) rd (kd op.toNat) r1 r2) 7 5 (fld z 0 5)) 25 7 (fld z 5 7)))
  | .B => IntKind.u32.wrap (U (pt (pt (pt (pt (baseW (lo op.toNat) rd (kd op.toNat) r1 r2) 8 4 (fld z 1 4)) 25 6 (fld z 5 6)) 7 1 (fld z 11 1)) 31 1 (fld z 12 1)))
  | .U => IntKind.u32.wrap (U (pt (headW (lo op.toNat) rd) 12 20 (fld z 12 20)))
  | .J => IntKind.u32.wrap (U (pt (pt (pt (pt (headW (lo op.toNat) rd) 21 10 (fld z 1 10)) 20 1 (fld z 11 1)) 12 8 (fld z 12 8)) 31 1 (fld z 20 1)))
  | .E => 1048691
theorem enc_any (op rd r1 r2 : Int) (h0 : 0 ≤ op) (h1 : op ≤ 42) (z : BitVec 64) (w : World) (L : Laid w) (hm : mayF op rd r1 r2 z = true) :
    Calls Tryd.prog 10 #[insV op rd r1 r2 (S z)] w fun e w' => e = .returned (.tuple #[.int .u32 (encV op rd r1 r2 z), .int .i64 0]) ∧ Below w.heap.size w w' := by
  unfold encV
  cases hf : fm op.toNat
  · exact enc_R op rd r1 r2 h0 h1 z w L hf hm
  · by_cases hs : 22 ≤ op ∧ op ≤ 24
    · simp only [if_pos hs]; exact enc_Ish op rd r1 r2 h0 h1 z w L hf hs hm
    · simp only [if_neg hs]; exact enc_I op rd r1 r2 h0 h1 z w L hf hs hm
  · exact enc_S op rd r1 r2 h0 h1 z w L hf hm
  · exact enc_B op rd r1 r2 h0 h1 z w L hf hm
  · exact enc_U op rd r1 r2 h0 h1 z w L hf hm
  · exact enc_J op rd r1 r2 h0 h1 z w L hf hm
  · exact enc_E op rd r1 r2 h0 h1 z w L hf hm
def encO (a0 a1 a2 a3 a4 : Int) : Option (Int × Int) :=
  if S (BitVec.ofInt 64 a4) = a4 then (if mayF a0 a1 a2 a3 (BitVec.ofInt 64 a4) = true then some (encV a0 a1 a2 a3 (BitVec.ofInt 64 a4), 0) else some (0, 1)) else none
theorem may_op {a0 a1 a2 a3 : Int} {z : BitVec 64} (h : mayF a0 a1 a2 a3 z = true) : 0 ≤ a0 ∧ a0 ≤ 42 := by
  unfold mayF at h
  simp only [Bool.and_eq_true, decide_eq_true_eq] at h
  exact h.1.1.1.1
theorem enc_calls (a0 a1 a2 a3 a4 : Int) (r1 r2 : Int) (w : World) (h : encO a0 a1 a2 a3 a4 = some (r1, r2)) (L : Laid w) :
    Calls Tryd.prog 10 #[insV a0 a1 a2 a3 a4] w fun e w' => e = .returned (.tuple #[.int .u32 r1, .int .i64 r2]) ∧ Below w.heap.size w w' := by
  unfold encO at h
  by_cases e : S (BitVec.ofInt 64 a4) = a4
  · rw [if_pos e] at h
    by_cases hm : mayF a0 a1 a2 a3 (BitVec.ofInt 64 a4) = true
    · rw [if_pos hm] at h
      injection h with h
      injection h with h h'
      subst h h'
      have g := enc_any a0 a1 a2 a3 (may_op hm).1 (may_op hm).2 (BitVec.ofInt 64 a4) w L hm
      rwa [e] at g
    · rw [if_neg hm] at h
      injection h with h
      injection h with h h'
      subst h h'
      have g := enc_no a0 a1 a2 a3 (BitVec.ofInt 64 a4) w L (Bool.eq_false_iff.2 hm)
      rwa [e] at g
  · rw [if_neg e] at h; cases h
/-- The instruction of a word. -/
def decF (v : BitVec 64) : Option (Int × Int × Int × Int × Int) :=
  match findF v with
  | none => none
  | some x => match fm x with
    | .R => some ((x : Int), wrap64 (U (fld v 7 5)), wrap64 (U (fld v 15 5)), wrap64 (U (fld v 20 5)), 0)
    | .I => if 22 ≤ (x : Int) ∧ (x : Int) ≤ 24 then some ((x : Int), wrap64 (U (fld v 7 5)), wrap64 (U (fld v 15 5)), 0, S (sg (fld (pt (0#64) 0 12 (fld v 20 12)) 0 6) 12)) else some ((x : Int), wrap64 (U (fld v 7 5)), wrap64 (U (fld v 15 5)), 0, S (sg (pt (0#64) 0 12 (fld v 20 12)) 12))
    | .S => some ((x : Int), 0, wrap64 (U (fld v 15 5)), wrap64 (U (fld v 20 5)), S (sg (pt (pt (0#64) 0 5 (fld v 7 5)) 5 7 (fld v 25 7)) 12))
    | .B => some ((x : Int), 0, wrap64 (U (fld v 15 5)), wrap64 (U (fld v 20 5)), S (sg (pt (pt (pt (pt (0#64) 1 4 (fld v 8 4)) 5 6 (fld v 25 6)) 11 1 (fld v 7 1)) 12 1 (fld v 31 1)) 13))
    | .U => some ((x : Int), wrap64 (U (fld v 7 5)), 0, 0, S (sg (pt (0#64) 12 20 (fld v 12 20)) 32))
    | .J => some ((x : Int), wrap64 (U (fld v 7 5)), 0, 0, S (sg (pt (pt (pt (pt (0#64) 1 10 (fld v 21 10)) 11 1 (fld v 20 1)) 12 8 (fld v 12 8)) 20 1 (fld v 31 1)) 21))
    | .E => if U v = 1048691 then some ((x : Int), 0, 0, 0, 0) else none
theorem findF_le (v : BitVec 64) (x : Nat) (h : findF v = some x) : x ≤ 42 := by
  have one : ∀ j y, stp v j = some y → y ≤ 42 := by
    intro j y hy
    unfold stp stepF at hy
    split at hy
    · cases hy
    · rename_i q hq
      have := lookK_lt _ _ _ _ _ hq
      split at hy
      · injection hy with hy; omega
      · cases hy
  unfold findF at h
  split at h
  · rename_i q hq; injection h with h; subst h; exact one _ _ hq
  · split at h
    · rename_i q hq; injection h with h; subst h; exact one _ _ hq
    · split at h
      · rename_i q hq; injection h with h; subst h; exact one _ _ hq
      · exact one _ _ h
def decV : Option (Int × Int × Int × Int × Int) → Value
  | some (x, d, a, b, n) => .tuple #[insV x d a b n, .int .i64 0]
  | none => .tuple #[insV 0 0 0 0 0, .int .i64 3]
theorem dec_any (v : BitVec 64) (hv : U v ≤ 4294967295) (w : World) (L : Laid w) :
    Calls Tryd.prog 16 #[.int .u32 (U v)] w fun e w' => e = .returned (decV (decF v)) ∧ Below w.heap.size w w' := by
  unfold decF
  cases hf : findF v with
  | none => exact dec_none v hv hf w L
  | some x =>
    have hx := findF_le v x hf
    dsimp only
    cases hF : fm x
    · exact dec_R v x hx hF hf w L
    · by_cases hs : 22 ≤ (x : Int) ∧ (x : Int) ≤ 24
      · simp only [if_pos hs]; exact dec_Ish v x hx hF hs hf w L
      · simp only [if_neg hs]; exact dec_I v x hx hF hs hf w L
    · exact dec_S v x hx hF hf w L
    · exact dec_B v x hx hF hf w L
    · exact dec_U v x hx hF hf w L
    · exact dec_J v x hx hF hf w L
    · by_cases he : U v = 1048691
      · simp only [if_pos he]
        exact walk_Ey (U v) (x : Int) w (wrapUU v) (by simp [he]) (by simp [he]) (find_pre v x .E hF hf w L)
      · simp only [if_neg he]
        exact walk_En (U v) (x : Int) w (wrapUU v) (by simp [he]) (by simp [he]) (find_pre v x .E hF hf w L)
def decO (a0 : Int) : Option (Int × Int × Int × Int × Int × Int) :=
  if U (BitVec.ofInt 64 a0) = a0 ∧ a0 ≤ 4294967295 then (match decF (BitVec.ofInt 64 a0) with | some (x, d, a, b, n) => some (x, d, a, b, n, 0) | none => some (0, 0, 0, 0, 0, 3)) else none
theorem dec_calls (a0 : Int) (r1 r2 r3 r4 r5 r6 : Int) (w : World) (h : decO a0 = some (r1, r2, r3, r4, r5, r6)) (L : Laid w) :
    Calls Tryd.prog 16 #[.int .u32 a0] w fun e w' => e = .returned (.tuple #[insV r1 r2 r3 r4 r5, .int .i64 r6]) ∧ Below w.heap.size w w' := by
  unfold decO at h
  by_cases e : U (BitVec.ofInt 64 a0) = a0 ∧ a0 ≤ 4294967295
  · rw [if_pos e] at h
    have g := dec_any (BitVec.ofInt 64 a0) (by rw [e.1]; exact e.2) w L
    rw [e.1] at g
    cases hd : decF (BitVec.ofInt 64 a0) with
    | none =>
      rw [hd] at g h
      simp only [Option.some.injEq, Prod.mk.injEq] at h
      obtain ⟨rfl, rfl, rfl, rfl, rfl, rfl⟩ := h
      exact g
    | some q =>
      obtain ⟨x, d, a, b, n⟩ := q
      rw [hd] at g h
      simp only [Option.some.injEq, Prod.mk.injEq] at h
      obtain ⟨rfl, rfl, rfl, rfl, rfl, rfl⟩ := h
      exact g
  · rw [if_neg e] at h; cases h
end Go.Proofs.YtbdlhhajblhmiaaDoor.Ins
