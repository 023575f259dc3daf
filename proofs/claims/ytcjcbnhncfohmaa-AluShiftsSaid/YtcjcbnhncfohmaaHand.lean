/- What the functions of package alu that hold a table of functions, or a map, come to, for every word: contracts, walked. -/
import Derived.Test.YtcjcbnhncfohmaaProg
import Derived.Test.YtcjcbnhncfohmaaHandB
import Derived.Test.YtcjcbnhncfohmaaWWords
import Derived.Test.YtcjcbnhncfohmaaWMore
import Derived.Test.YtcjcbnhncfohmaaWLast
import Derived.WalkKit
import Derived.Outline
import Derived.Laws.EntriesVeiled
import Derived.WalkLawsBesides
import Derived.WalkSpells
import Derived.Maps.OwnSet
import Derived.Lib.Mul64
import Derived.Laws.Bits64b
set_option linter.unusedVariables false
set_option linter.unusedSimpArgs false
namespace Go.Proofs.Ytcjcbnhncfohmaa.Hand
open Go Go.RowKit Go.Proofs Go.Proofs.YtcjcbnhncfohmaaW.PrintWords Go.Proofs.Ytcjcbnhncfohmaa.Bv Go.Maps

/-! ### 5. The map, and One -/
theorem wpList_insert_own {H : Type} {P : Program} (w : World) {ops : Array Oper} {rest : List Oper} {o : Oper} {a : Act} {Q : Exit → Act → World → Prop}
    (hg : o.guard = none) (m x v : Operand) (t : TypeId) (hop : o.op = Op.insert t m x v)
    (k e : TypeId) (K : Keyed P k) (ht : P.underlying t = some (.map k e)) (R : Value → Option (DataW H × List MemPlace)) (b n : Nat) (D : DataW H)
    (hm : a.eval m = .map (some b)) (hown : w.ownsMap P k R b n D) (hn : n < maxLen) (key val : Value) (kl : Lit) (hx : a.eval x = key) (hv : a.eval v = val) (hkey : keyOf P k key = some kl)
    (d : DataW H) (ps : List MemPlace) (hval : R val = some (d, ps))
    (hK : ∀ w', w'.ownsMap P k R b (n + 1) (D.put kl d) → w.grownBy w' (some b) → wpList P ops Q rest (a.put o.dst undef) w') :
    wpList P ops Q (o :: rest) a w := by
  refine wpList_plain hg fun K' hK' => ?_
  obtain ⟨w', hrun, r1, r2⟩ := hown.update K ht hn hkey hval
  unfold Oper.wp
  simp [execOp, hop, hm, hx, hv, hrun, Result.andThen]
  exact hK' _ _ (hK w' r1 r2)
theorem law3 : Keyed Try.prog 3 := int_keyed Try.underlying3
theorem zero3 (w : World) : (zeroValue 3).run Try.prog w = .ok (.int .i64 0) w := by kernel_rfl
abbrev k64 (n : Int) : Lit := .int .i64 n
abbrev d64 (n : Int) : DataW Unit := .lit (.int .i64 n)
def Dw : DataW Unit := ((((((((((.map [] : DataW Unit).put (k64 16) (d64 0)).put (k64 17) (d64 3)).put (k64 18) (d64 4)).put (k64 19) (d64 5)).put (k64 20) (d64 8)).put (k64 21) (d64 9)).put (k64 22) (d64 2)).put (k64 23) (d64 6)).put (k64 24) (d64 7))
theorem Dw_at (n : Nat) (h0 : 16 ≤ n) (h1 : n ≤ 24) : Dw.atKey (k64 n) (d64 0) = d64 (withN n) ∧ Maps.has Dw (k64 n) = true := by
  match n, h0, h1 with
  | 16, _, _ => exact ⟨rfl, rfl⟩
  | 17, _, _ => exact ⟨rfl, rfl⟩
  | 18, _, _ => exact ⟨rfl, rfl⟩
  | 19, _, _ => exact ⟨rfl, rfl⟩
  | 20, _, _ => exact ⟨rfl, rfl⟩
  | 21, _, _ => exact ⟨rfl, rfl⟩
  | 22, _, _ => exact ⟨rfl, rfl⟩
  | 23, _, _ => exact ⟨rfl, rfl⟩
  | 24, _, _ => exact ⟨rfl, rfl⟩
  | n + 25, _, h => exact absurd h (by omega)
theorem Dw_not (op : Int) (h : ¬ (16 ≤ op ∧ op ≤ 24)) : Dw.atKey (k64 op) (d64 0) = d64 0 ∧ Maps.has Dw (k64 op) = false := by
  have e : ∀ n : Int, 16 ≤ n → n ≤ 24 → k64 op ≠ k64 n := fun n h0 h1 g => by
    have : op = n := by injection g
    omega
  unfold Dw
  refine ⟨?_, ?_⟩
  · rw [atKey_put_other (e 24 (by decide) (by decide)), atKey_put_other (e 23 (by decide) (by decide)), atKey_put_other (e 22 (by decide) (by decide)), atKey_put_other (e 21 (by decide) (by decide)), atKey_put_other (e 20 (by decide) (by decide)), atKey_put_other (e 19 (by decide) (by decide)), atKey_put_other (e 18 (by decide) (by decide)), atKey_put_other (e 17 (by decide) (by decide)), atKey_put_other (e 16 (by decide) (by decide))]
    rfl
  · rw [has_put_other (e 24 (by decide) (by decide)), has_put_other (e 23 (by decide) (by decide)), has_put_other (e 22 (by decide) (by decide)), has_put_other (e 21 (by decide) (by decide)), has_put_other (e 20 (by decide) (by decide)), has_put_other (e 19 (by decide) (by decide)), has_put_other (e 18 (by decide) (by decide)), has_put_other (e 17 (by decide) (by decide)), has_put_other (e 16 (by decide) (by decide))]
    rfl
set_option maxHeartbeats 2000000 in
set_option maxRecDepth 100000 in
theorem with_any (op : Int) (wo : (Lit.int .i64 op).wf = true) (c : Int) (is : Bool) (hc : Dw.atKey (k64 op) (d64 0) = d64 c) (his : Maps.has Dw (k64 op) = is) (w : World) :
    Calls Try.prog 25 #[.int .i64 op] w fun e w' => e = .returned (.tuple #[.int .i64 c, .bool is]) ∧ Below w.heap.size w w' := by
  have hmm := @run_makeMap Try.prog
  have hown : (w.alloc (.map #[] 0)).ownsMap Try.prog 3 (plainElem Try.prog 3) w.heap.size 0 (.map [] : DataW Unit) := World.ownsMap_made _ _ _ _
  have hb : Below w.heap.size w (w.alloc (.map #[] 0)) := (Below.refl _ _).alloc (Nat.le_refl _) _
  obtain ⟨w1, r1, hown1, hg1⟩ := hown.update (key := .int .i64 16) (val := .int .i64 0) law3 Try.underlying52 (by decide) (keyOf_int_mk Try.underlying3 (by decide)) (plainElem_int Try.underlying3 (by decide))
  have hb1 := hb.grown hg1 hb.size (fun j hj => by cases hj; exact Nat.le_refl _)
  clear hown hb hg1
  have hown := hown1
  have hb := hb1
  clear hown1 hb1
  obtain ⟨w2, r2, hown2, hg2⟩ := hown.update (key := .int .i64 17) (val := .int .i64 3) law3 Try.underlying52 (by decide) (keyOf_int_mk Try.underlying3 (by decide)) (plainElem_int Try.underlying3 (by decide))
  have hb2 := hb.grown hg2 hb.size (fun j hj => by cases hj; exact Nat.le_refl _)
  clear hown hb hg2
  have hown := hown2
  have hb := hb2
  clear hown2 hb2
  obtain ⟨w3, r3, hown3, hg3⟩ := hown.update (key := .int .i64 18) (val := .int .i64 4) law3 Try.underlying52 (by decide) (keyOf_int_mk Try.underlying3 (by decide)) (plainElem_int Try.underlying3 (by decide))
  have hb3 := hb.grown hg3 hb.size (fun j hj => by cases hj; exact Nat.le_refl _)
  clear hown hb hg3
  have hown := hown3
  have hb := hb3
  clear hown3 hb3
  obtain ⟨w4, r4, hown4, hg4⟩ := hown.update (key := .int .i64 19) (val := .int .i64 5) law3 Try.underlying52 (by decide) (keyOf_int_mk Try.underlying3 (by decide)) (plainElem_int Try.underlying3 (by decide))
  have hb4 := hb.grown hg4 hb.size (fun j hj => by cases hj; exact Nat.le_refl _)
  clear hown hb hg4
  have hown := hown4
  have hb := hb4
  clear hown4 hb4
  obtain ⟨w5, r5, hown5, hg5⟩ := hown.update (key := .int .i64 20) (val := .int .i64 8) law3 Try.underlying52 (by decide) (keyOf_int_mk Try.underlying3 (by decide)) (plainElem_int Try.underlying3 (by decide))
  have hb5 := hb.grown hg5 hb.size (fun j hj => by cases hj; exact Nat.le_refl _)
  clear hown hb hg5
  have hown := hown5
  have hb := hb5
  clear hown5 hb5
  obtain ⟨w6, r6, hown6, hg6⟩ := hown.update (key := .int .i64 21) (val := .int .i64 9) law3 Try.underlying52 (by decide) (keyOf_int_mk Try.underlying3 (by decide)) (plainElem_int Try.underlying3 (by decide))
  have hb6 := hb.grown hg6 hb.size (fun j hj => by cases hj; exact Nat.le_refl _)
  clear hown hb hg6
  have hown := hown6
  have hb := hb6
  clear hown6 hb6
  obtain ⟨w7, r7, hown7, hg7⟩ := hown.update (key := .int .i64 22) (val := .int .i64 2) law3 Try.underlying52 (by decide) (keyOf_int_mk Try.underlying3 (by decide)) (plainElem_int Try.underlying3 (by decide))
  have hb7 := hb.grown hg7 hb.size (fun j hj => by cases hj; exact Nat.le_refl _)
  clear hown hb hg7
  have hown := hown7
  have hb := hb7
  clear hown7 hb7
  obtain ⟨w8, r8, hown8, hg8⟩ := hown.update (key := .int .i64 23) (val := .int .i64 6) law3 Try.underlying52 (by decide) (keyOf_int_mk Try.underlying3 (by decide)) (plainElem_int Try.underlying3 (by decide))
  have hb8 := hb.grown hg8 hb.size (fun j hj => by cases hj; exact Nat.le_refl _)
  clear hown hb hg8
  have hown := hown8
  have hb := hb8
  clear hown8 hb8
  obtain ⟨w9, r9, hown9, hg9⟩ := hown.update (key := .int .i64 24) (val := .int .i64 7) law3 Try.underlying52 (by decide) (keyOf_int_mk Try.underlying3 (by decide)) (plainElem_int Try.underlying3 (by decide))
  have hb9 := hb.grown hg9 hb.size (fun j hj => by cases hj; exact Nat.le_refl _)
  clear hown hb hg9
  have hown := hown9
  have hb := hb9
  clear hown9 hb9
  obtain ⟨v, ps, hrun, hv⟩ := hown.look_ok law3 Try.underlying52 (zero3 _) (plainElem_int Try.underlying3 (by decide)) (keyOf_int_mk Try.underlying3 wo)
  obtain ⟨c', rfl, hat, hwc⟩ := plainElem_int_inv Try.underlying3 hv
  replace hat := congrArg Prod.fst hat
  obtain rfl : c' = c := by
    have g := hat.symm.trans hc
    injection g with g
    injection g
  replace hrun : (Instr.lookup 52 (.map (some w.heap.size)) (.int .i64 op) true).run Try.prog w9 = .ok (.tuple #[.int .i64 c', .bool (Maps.has Dw (k64 op))]) w9 := hrun
  rw [his] at hrun
  clear hat hwc hc his hown hv
  go_enter Try.func25, Try.ntmps25
  go_wp2
  go_ret2
  exact ⟨rfl, hb⟩
theorem with_yes (n : Nat) (h0 : 16 ≤ n) (h1 : n ≤ 24) (w : World) : Calls Try.prog 25 #[.int .i64 (n : Int)] w fun e w' => e = .returned (.tuple #[.int .i64 (withN n), .bool true]) ∧ Below w.heap.size w w' :=
  with_any n (WalkArith.wf_i64 (by omega)) (withN n) true (Dw_at n h0 h1).1 (Dw_at n h0 h1).2 w
theorem with_no (op : Int) (wo : (Lit.int .i64 op).wf = true) (h : ¬ (16 ≤ op ∧ op ≤ 24)) (w : World) : Calls Try.prog 25 #[.int .i64 op] w fun e w' => e = .returned (.tuple #[.int .i64 0, .bool false]) ∧ Below w.heap.size w w' :=
  with_any op wo 0 false (Dw_not op h).1 (Dw_not op h).2 w
/-- What One answers: told of words alone. -/
def oneF (a0 a1 a2 : Int) : Option (Int × Bool) :=
  if 0 ≤ a1 ∧ a1 < 18446744073709551616 ∧ -9223372036854775808 ≤ a2 ∧ a2 < 9223372036854775808 ∧ -9223372036854775808 ≤ a0 ∧ a0 < 9223372036854775808 then
    (if 16 ≤ a0 ∧ a0 ≤ 24 then some (U (twoW (withN a0.toNat).toNat (BitVec.ofInt 64 a1) (BitVec.ofInt 64 a2)), true) else some (0, false))
  else none
theorem withN_le (n : Nat) : 0 ≤ withN n ∧ withN n ≤ 15 := by
  unfold withN
  split <;> decide
theorem one_yes (n : Nat) (h0 : 16 ≤ n) (h1 : n ≤ 24) (x y : BitVec 64) (w : World) :
    Calls Try.prog 14 #[.int .i64 (n : Int), .int .u64 (U x), .int .i64 (S y)] w fun e w' => e = .returned (.tuple #[.int .u64 (U (twoW (withN n).toNat x y)), .bool true]) ∧ Below w.heap.size w w' := by
  have hw := with_yes n h0 h1
  have ht : ∀ w, Calls Try.prog 12 #[.int .i64 (withN n), .int .u64 (U x), .int .u64 (U y)] w fun e w' => e = .returned (.tuple #[.int .u64 (U (twoW (withN n).toNat x y)), .bool true]) ∧ Below w.heap.size w w' := by
    intro w
    have g := two_yes (withN n).toNat (by have := withN_le n; omega) x y w
    rw [Int.toNat_of_nonneg (withN_le n).1] at g
    exact g
  have hu := wrapUS y
  obtain ⟨D, hD⟩ : ∃ D, U (twoW (withN n).toNat x y) = D := ⟨_, rfl⟩
  rw [hD] at ht ⊢
  clear hD
  obtain ⟨m, hm⟩ : ∃ m, withN n = m := ⟨_, rfl⟩
  rw [hm] at hw ht
  clear hm
  generalize (n : Int) = op at *
  go_enter Try.func14, Try.ntmps14
  go_wp2_with (first | (go_at_call 25; refine (hw _).mono ?_; rintro e w' ⟨rfl, hb⟩) | (go_at_call 12; refine (ht _).mono ?_; rintro e w'' ⟨rfl, hb2⟩))
  go_ret2
  exact ⟨rfl, below_then hb hb.size hb2⟩
theorem one_no (op : Int) (wo : (Lit.int .i64 op).wf = true) (h : ¬ (16 ≤ op ∧ op ≤ 24)) (a b : Int) (w : World) :
    Calls Try.prog 14 #[.int .i64 op, .int .u64 a, .int .i64 b] w fun e w' => e = .returned (.tuple #[.int .u64 0, .bool false]) ∧ Below w.heap.size w w' := by
  have hw := with_no op wo h
  clear h wo
  go_enter Try.func14, Try.ntmps14
  go_wp2_with (go_at_call 25; refine (hw _).mono ?_; rintro e w' ⟨rfl, hb⟩)
  go_ret2
  exact ⟨rfl, hb⟩
theorem one_calls (a0 a1 a2 r1 : Int) (r2 : Bool) (w : World) (h : oneF a0 a1 a2 = some (r1, r2)) :
    Calls Try.prog 14 #[.int .i64 a0, .int .u64 a1, .int .i64 a2] w fun e w' => e = .returned (.tuple #[.int .u64 r1, .bool r2]) ∧ Below w.heap.size w w' := by
  unfold oneF at h
  by_cases hw : 0 ≤ a1 ∧ a1 < 18446744073709551616 ∧ -9223372036854775808 ≤ a2 ∧ a2 < 9223372036854775808 ∧ -9223372036854775808 ≤ a0 ∧ a0 < 9223372036854775808
  · rw [if_pos hw] at h
    obtain ⟨w0, w1, w2, w3, w4, w5⟩ := hw
    by_cases ho : 16 ≤ a0 ∧ a0 ≤ 24
    · rw [if_pos ho] at h
      simp only [Option.some.injEq, Prod.mk.injEq] at h
      obtain ⟨rfl, rfl⟩ := h
      have g := one_yes a0.toNat (by omega) (by omega) (BitVec.ofInt 64 a1) (BitVec.ofInt 64 a2) w
      rw [U_of w0 w1, S_of w2 w3, Int.toNat_of_nonneg (by omega)] at g
      exact g
    · rw [if_neg ho] at h
      simp only [Option.some.injEq, Prod.mk.injEq] at h
      obtain ⟨rfl, rfl⟩ := h
      exact one_no a0 (WalkArith.wf_i64 (by omega)) ho a1 a2 w
  · rw [if_neg hw] at h
    cases h
end Go.Proofs.Ytcjcbnhncfohmaa.Hand
