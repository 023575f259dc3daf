/- The map that known of package ins makes: each operation by its fields. -/
import Derived.Test.YtbdlhhajblhmiaaDoorInsD
import Derived.Maps.OwnSet
import Derived.DeepKeys4
import Derived.Laws.Rows
set_option linter.unusedVariables false
set_option linter.unusedSimpArgs false
namespace Go.Proofs.YtbdlhhajblhmiaaDoor.Ins
open Go Go.RowKit Go.Proofs Go.Proofs.YtbdlhhajblhmiaaDoorW.PrintWords Go.Proofs.YtbdlhhajblhmiaaDoor.Bv Go.Proofs.YtbdlhhajblhmiaaDoor.Bw Go.Proofs.YtbdlhhajblhmiaaDoor.BL Go.Proofs.YtbdlhhajblhmiaaDoor.QEncode Go.Maps

abbrev keyV (a b c : Int) : Value := .agg #[.int .u64 a, .int .u64 b, .int .u64 c]
def keyL (a b c : Int) : Lit := .string (keyBytes [.int .u64 a, .int .u64 b, .int .u64 c])
theorem laidOut : laidOutB Tryd.prog = true := by kernel_rfl
theorem law40 : Keyed Tryd.prog 40 := Keyed.of_law (deep_law_laid laidOut (m := 9999) (by decide) (of_decide_eq_true (by kernel_rfl)) (by kernel_rfl) (by kernel_rfl))
theorem size_types : Tryd.prog.types.size + 1 = (Tryd.prog.types.size - 1) + 1 + 1 := by kernel_rfl
theorem lits40 (d : Nat) (a b c : Int) (ha : (Lit.int .u64 a).wf = true) (hb : (Lit.int .u64 b).wf = true) (hc : (Lit.int .u64 c).wf = true) :
    Tryd.prog.keyLits (d + 1 + 1) 40 [.int .u64 a, .int .u64 b, .int .u64 c] = some [.int .u64 a, .int .u64 b, .int .u64 c] := by
  have c40 : Tryd.prog.cellsOf 40 = 3 := by kernel_rfl
  have c38 : Tryd.prog.cellsOf 38 = 1 := by kernel_rfl
  have one : ∀ n : Int, (Lit.int .u64 n).wf = true → Tryd.prog.keyLits (d + 1) 38 [.int .u64 n] = some [.int .u64 n] := by
    intro n hn
    unfold Program.keyLits
    rw [Tryd.underlying38]
    simp only [hn, and_self, if_true]
  unfold Program.keyLits
  rw [Tryd.underlying40]
  simp [c40, c38, one a ha, one b hb, one c hc]
theorem key_is (a b c : Int) (ha : (Lit.int .u64 a).wf = true) (hb : (Lit.int .u64 b).wf = true) (hc : (Lit.int .u64 c).wf = true) : keyOf Tryd.prog 40 (keyV a b c) = some (keyL a b c) := by
  have k1 : Tryd.prog.keyType 40 = true := by kernel_rfl
  have k2 : (keyV a b c).formed Tryd.prog 40 = true := by kernel_rfl
  have g := lits40 (Tryd.prog.types.size - 1) a b c ha hb hc
  rw [← size_types] at g
  unfold keyOf
  rw [Tryd.underlying40]
  dsimp only
  rw [k1, k2]
  simp only [Bool.and_self, if_true]
  show (Tryd.prog.keyLits (Tryd.prog.types.size + 1) 40 [.int .u64 a, .int .u64 b, .int .u64 c]).map _ = _
  rw [g]
  rfl
/-! ### the whole table, read -/
def rowAt (j : Nat) : Value :=
  if j % 4 = 0 then .string (fm (j / 4)).s else if j % 4 = 1 then .int .u64 (lo (j / 4)) else if j % 4 = 2 then .int .u64 (kd (j / 4)) else .int .u64 (tp (j / 4))
theorem Laid.at {w : World} (L : Laid w) (j : Nat) (hj : j < 172) : w.cell? ⟨0, j, none⟩ = some (rowAt j) := by
  have h := Nat.div_add_mod j 4
  unfold rowAt
  by_cases h0 : j % 4 = 0
  · rw [if_pos h0]
    have g := L.form (j / 4) (by omega)
    rwa [show j / 4 * 4 = j by omega] at g
  · by_cases h1 : j % 4 = 1
    · rw [if_neg h0, if_pos h1]
      have g := L.low (j / 4) (by omega)
      rwa [show j / 4 * 4 + 1 = j by omega] at g
    · by_cases h2 : j % 4 = 2
      · rw [if_neg h0, if_neg h1, if_pos h2]
        have g := L.kind (j / 4) (by omega)
        rwa [show j / 4 * 4 + 2 = j by omega] at g
      · rw [if_neg h0, if_neg h1, if_neg h2]
        have g := L.top (j / 4) (by omega)
        rwa [show j / 4 * 4 + 3 = j by omega] at g
def rowsC : Array Value := ((List.range 172).map rowAt).toArray
theorem run_rows {w : World} (L : Laid w) : (loadVar 43 ⟨0, 0, none⟩).run Tryd.prog w = .ok (.agg rowsC) w := by
  have hl : (loadCells ⟨0, 0, none⟩ 172).run Tryd.prog w = .ok rowsC w := by
    have g := run_loadCells (P := Tryd.prog) (w := w) ⟨0, 0, none⟩ 172 rowAt (fun j hj => by
      have hadd : (⟨0, 0, none⟩ : Addr).add j = ⟨0, j, none⟩ := by unfold Addr.add; split <;> simp_all
      rw [hadd]; exact L.at j hj)
    exact g
  have hq : ∃ i, Tryd.prog.info? 43 = some i ∧ i.size = 172 := by
    have g : (Tryd.prog.info? 43).map (·.size) = some 172 := by kernel_rfl
    obtain ⟨i, hi, hs⟩ := Option.map_eq_some_iff.1 g
    exact ⟨i, hi, hs⟩
  obtain ⟨i, hi, hs⟩ := hq
  have hagg : (isAgg 43).run Tryd.prog w = .ok true w := by
    unfold isAgg
    rw [Sem.run_bind, run_underlying Tryd.underlying43 w]
    rfl
  simp [loadVar, Sem.run_bind, hagg, sizeOf, typeInfo, hi, hs, hl]
theorem wpList_load_rows {ops : Array Oper} {rest : List Oper} {o : Oper} {a : Act} {w : World} {Q : Exit → Act → World → Prop} (hgd : o.guard = none) (x : Operand) (ho : o.op = .load 43 x)
    (hx : a.eval x = .pointer (some ⟨0, 0, none⟩)) (L : Laid w) (h : wpList Tryd.prog ops Q rest (a.put o.dst (.agg rowsC)) w) : wpList Tryd.prog ops Q (o :: rest) a w :=
  wpList_plain hgd fun _ hK => by
    unfold Oper.wp execOp
    simp only [ho, hx, Instr.loadAt, Instr.sureAddr, Sem.run_bind, Sem.run_pure, Result.andThen_ok, run_rows L]
    exact hK _ _ h
abbrev rowV (k : Nat) : Value := .agg #[.string (fm k).s, .int .u64 (lo k), .int .u64 (kd k), .int .u64 (tp k)]
set_option maxRecDepth 100000 in
theorem idx_rows (k : Nat) (hk : k ≤ 42) : ∀ w, (Instr.index 43 (.agg rowsC) (.int .i64 (k : Int))).run Tryd.prog w = .ok (rowV k) w := by
  match k, hk with
  | 0, _ => exact fun _ => by kernel_rfl
  | 1, _ => exact fun _ => by kernel_rfl
  | 2, _ => exact fun _ => by kernel_rfl
  | 3, _ => exact fun _ => by kernel_rfl
  | 4, _ => exact fun _ => by kernel_rfl
  | 5, _ => exact fun _ => by kernel_rfl
  | 6, _ => exact fun _ => by kernel_rfl
  | 7, _ => exact fun _ => by kernel_rfl
  | 8, _ => exact fun _ => by kernel_rfl
  | 9, _ => exact fun _ => by kernel_rfl
  | 10, _ => exact fun _ => by kernel_rfl
  | 11, _ => exact fun _ => by kernel_rfl
  | 12, _ => exact fun _ => by kernel_rfl
  | 13, _ => exact fun _ => by kernel_rfl
  | 14, _ => exact fun _ => by kernel_rfl
  | 15, _ => exact fun _ => by kernel_rfl
  | 16, _ => exact fun _ => by kernel_rfl
  | 17, _ => exact fun _ => by kernel_rfl
  | 18, _ => exact fun _ => by kernel_rfl
  | 19, _ => exact fun _ => by kernel_rfl
  | 20, _ => exact fun _ => by kernel_rfl
  | 21, _ => exact fun _ => by kernel_rfl
  | 22, _ => exact fun _ => by kernel_rfl
  | 23, _ => exact fun _ => by kernel_rfl
  | 24, _ => exact fun _ => by kernel_rfl
  | 25, _ => exact fun _ => by kernel_rfl
  | 26, _ => exact fun _ => by kernel_rfl
  | 27, _ => exact fun _ => by kernel_rfl
  | 28, _ => exact fun _ => by kernel_rfl
  | 29, _ => exact fun _ => by kernel_rfl
  | 30, _ => exact fun _ => by kernel_rfl
  | 31, _ => exact fun _ => by kernel_rfl
  | 32, _ => exact fun _ => by kernel_rfl
  | 33, _ => exact fun _ => by kernel_rfl
  | 34, _ => exact fun _ => by kernel_rfl
  | 35, _ => exact fun _ => by kernel_rfl
  | 36, _ => exact fun _ => by kernel_rfl
  | 37, _ => exact fun _ => by kernel_rfl
  | 38, _ => exact fun _ => by kernel_rfl
  | 39, _ => exact fun _ => by kernel_rfl
  | 40, _ => exact fun _ => by kernel_rfl
  | 41, _ => exact fun _ => by kernel_rfl
  | 42, _ => exact fun _ => by kernel_rfl
  | n + 43, h => exact absurd h (by omega)
/-! ### what the map tells -/
abbrev d64 (n : Int) : DataW Unit := .lit (.int .i64 n)
def Dk : Nat → DataW Unit
  | 0 => .map []
  | n + 1 => (Dk n).put (keyL (lo n) (kd n) (tp n)) (d64 n)
/-- The last operation below n with these fields. -/
def lookK : Nat → Int → Int → Int → Option Nat
  | 0, _, _, _ => none
  | n + 1, a, b, c => if a = lo n ∧ b = kd n ∧ c = tp n then some n else lookK n a b c
theorem Dk_map : ∀ n, IsMap (Dk n)
  | 0 => isMap_empty
  | n + 1 => (Dk_map n).put _ _
theorem row_wf (n : Nat) : (Lit.int .u64 (lo n)).wf = true ∧ (Lit.int .u64 (kd n)).wf = true ∧ (Lit.int .u64 (tp n)).wf = true := by
  have h1 : lo n ≤ 127 := by unfold lo; (repeat' split) <;> omega
  have h2 : kd n ≤ 7 := by
    unfold kd
    by_cases h : n < 43
    · have : ∀ m : Fin 43, [0, 0, 1, 2, 3, 4, 5, 5, 6, 7, 0, 3, 4, 5, 6, 7, 0, 2, 3, 4, 6, 7, 1, 5, 5, 0, 4, 2, 3, 0, 2, 3, 0, 1, 4, 5, 6, 7, 0, 0, 0, 0, 0].getD m.val 0 ≤ 7 := by decide
      exact this ⟨n, h⟩
    · rw [List.getD_eq_getElem?_getD, List.getElem?_eq_none (by simp; omega)]; simp
  have h3 : tp n ≤ 32 := by unfold tp; (repeat' split) <;> omega
  exact ⟨WalkArith.wf_u64 (by omega), WalkArith.wf_u64 (by omega), WalkArith.wf_u64 (by omega)⟩
theorem keyL_ne {a b c a' b' c' : Int} (ha : (Lit.int .u64 a).wf = true) (hb : (Lit.int .u64 b).wf = true) (hc : (Lit.int .u64 c).wf = true)
    (ha' : (Lit.int .u64 a').wf = true) (hb' : (Lit.int .u64 b').wf = true) (hc' : (Lit.int .u64 c').wf = true) (h : ¬ (a = a' ∧ b = b' ∧ c = c')) : keyL a b c ≠ keyL a' b' c' := by
  intro e
  have g := law40.inj (key_is a b c ha hb hc) (by rw [e]; exact key_is a' b' c' ha' hb' hc')
  injection g with g
  simp at g
  exact h g
theorem Dk_look (a b c : Int) (ha : (Lit.int .u64 a).wf = true) (hb : (Lit.int .u64 b).wf = true) (hc : (Lit.int .u64 c).wf = true) : ∀ n,
    (Dk n).atKey (keyL a b c) (d64 0) = d64 (((lookK n a b c).getD 0 : Nat) : Int) ∧ Maps.has (Dk n) (keyL a b c) = (lookK n a b c).isSome
  | 0 => ⟨rfl, rfl⟩
  | n + 1 => by
    have ih := Dk_look a b c ha hb hc n
    have w := row_wf n
    unfold Dk lookK
    by_cases h : a = lo n ∧ b = kd n ∧ c = tp n
    · rw [if_pos h]
      obtain ⟨rfl, rfl, rfl⟩ := h
      exact ⟨atKey_put_same (Dk_map n) (show WideAt.IsKeyLit (keyL _ _ _) from trivial) _ _, has_put_same (Dk_map n) (show WideAt.IsKeyLit (keyL _ _ _) from trivial) _⟩
    · rw [if_neg h]
      have hne := keyL_ne ha hb hc w.1 w.2.1 w.2.2 h
      exact ⟨(atKey_put_other hne _ _).trans ih.1, (has_put_other hne _).trans ih.2⟩
end Go.Proofs.YtbdlhhajblhmiaaDoor.Ins
