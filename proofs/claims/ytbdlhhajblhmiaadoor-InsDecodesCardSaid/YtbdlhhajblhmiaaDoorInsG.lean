/- find of package ins, walked. -/
import Derived.Test.YtbdlhhajblhmiaaDoorInsF
import Derived.Deep.QuietTactic
import Derived.BigQuiet
set_option linter.unusedVariables false
set_option linter.unusedSimpArgs false
namespace Go.Proofs.YtbdlhhajblhmiaaDoor.Ins
open Go Go.RowKit Go.Proofs Go.Proofs.YtbdlhhajblhmiaaDoorW.PrintWords Go.Proofs.YtbdlhhajblhmiaaDoor.Bv Go.Proofs.YtbdlhhajblhmiaaDoor.Bw Go.Proofs.YtbdlhhajblhmiaaDoor.BL Go.Proofs.YtbdlhhajblhmiaaDoor.QEncode Go.Maps

set_option maxHeartbeats 4000000 in
set_option maxRecDepth 100000 in
theorem fieldC (v : BitVec 64) (fn nn : Nat) (h : fn + nn ≤ 64) (b : Nat) (w : World) (hc : w.cell? ⟨b, 0, none⟩ = some (.int .u64 (U v))) :
    Calls Tryd.prog 40 #[.int .i64 (fn : Int), .int .i64 (nn : Int), .pointer (some ⟨b, 0, none⟩)] w fun e w' => e = .returned (.int .u64 (U (fld v fn nn))) ∧ Drawn0 w w' := by
  go_enter Tryd.func40, Tryd.ntmps40
  go_wp2_with (go_at_call 20; refine (field_c _ _ _ fn nn rfl rfl h _).mono ?_; rintro e w' ⟨rfl, ⟨nd, rfl⟩⟩)
  go_ret
  exact ⟨rfl, ⟨nd, rfl⟩⟩
theorem field0 (v : BitVec 64) (b : Nat) (w : World) (hc : w.cell? ⟨b, 0, none⟩ = some (.int .u64 (U v))) :
    Calls Tryd.prog 40 #[.int .i64 0, .int .i64 7, .pointer (some ⟨b, 0, none⟩)] w fun e w' => e = .returned (.int .u64 (U (fld v 0 7))) ∧ Drawn0 w w' := fieldC v 0 7 (by decide) b w hc
theorem field12 (v : BitVec 64) (b : Nat) (w : World) (hc : w.cell? ⟨b, 0, none⟩ = some (.int .u64 (U v))) :
    Calls Tryd.prog 40 #[.int .i64 12, .int .i64 3, .pointer (some ⟨b, 0, none⟩)] w fun e w' => e = .returned (.int .u64 (U (fld v 12 3))) ∧ Drawn0 w w' := fieldC v 12 3 (by decide) b w hc
theorem field25 (v : BitVec 64) (b : Nat) (w : World) (hc : w.cell? ⟨b, 0, none⟩ = some (.int .u64 (U v))) :
    Calls Tryd.prog 40 #[.int .i64 25, .int .i64 7, .pointer (some ⟨b, 0, none⟩)] w fun e w' => e = .returned (.int .u64 (U (fld v 25 7))) ∧ Drawn0 w w' := fieldC v 25 7 (by decide) b w hc
theorem field26 (v : BitVec 64) (b : Nat) (w : World) (hc : w.cell? ⟨b, 0, none⟩ = some (.int .u64 (U v))) :
    Calls Tryd.prog 40 #[.int .i64 26, .int .i64 6, .pointer (some ⟨b, 0, none⟩)] w fun e w' => e = .returned (.int .u64 (U (fld v 26 6))) ∧ Drawn0 w w' := fieldC v 26 6 (by decide) b w hc
theorem quiet25 (v : BitVec 64) (b : Nat) (w : World) (n : Nat) (hc : w.cell? ⟨b, 0, none⟩ = some (.int .u64 (U v))) :
    Calls Tryd.prog 40 #[.int .i64 25, .int .i64 7, .pointer (some ⟨b, 0, none⟩)] (w.drewN n) fun e w' => e = .returned (.int .u64 (U (fld v 25 7))) ∧ ∃ m, w' = w.drewN m :=
  (field25 v b (w.drewN n) hc).mono fun _ _ ⟨he, m, hm⟩ => ⟨he, n + m, by rw [hm, World.drewN_drewN]⟩
theorem quiet26 (v : BitVec 64) (b : Nat) (w : World) (n : Nat) (hc : w.cell? ⟨b, 0, none⟩ = some (.int .u64 (U v))) :
    Calls Tryd.prog 40 #[.int .i64 26, .int .i64 6, .pointer (some ⟨b, 0, none⟩)] (w.drewN n) fun e w' => e = .returned (.int .u64 (U (fld v 26 6))) ∧ ∃ m, w' = w.drewN m :=
  (field26 v b (w.drewN n) hc).mono fun _ _ ⟨he, m, hm⟩ => ⟨he, n + m, by rw [hm, World.drewN_drewN]⟩
theorem quietSh (x : Nat) (r : Bool) (w : World) (n : Nat) (h : decide (22 ≤ (x : Int) ∧ (x : Int) ≤ 24) = r) :
    Calls Tryd.prog 18 #[.int .i64 (x : Int)] (w.drewN n) fun e w' => e = .returned (.bool r) ∧ ∃ m, w' = w.drewN m :=
  (shift_c (x : Int) (w.drewN n)).mono fun _ _ ⟨he, m, hm⟩ => ⟨by rw [he, h], n + m, by rw [hm, World.drewN_drewN]⟩
theorem ownsMap_below {k : TypeId} {R : Value → Option (DataW Unit × List MemPlace)} {b n B : Nat} {D : DataW Unit} {w w' : World} (h : w.ownsMap Tryd.prog k R b n D) (hb : Below B w w') (hlt : b < B) : w'.ownsMap Tryd.prog k R b n D := by
  obtain ⟨es, clock, h1, h2, h3, h4⟩ := h
  exact ⟨es, clock, (hb.block b hlt).trans h1, h2, h3, h4⟩
theorem look_eq {w : World} {b : Nat} (h : w.ownsMap Tryd.prog 40 (plainElem Tryd.prog 3) b 43 (Dk 43)) (x y z : Int) (hx : (Lit.int .u64 x).wf = true) (hy : (Lit.int .u64 y).wf = true) (hz : (Lit.int .u64 z).wf = true) :
    (Instr.lookup 67 (.map (some b)) (.agg #[.int .u64 x, .int .u64 y, .int .u64 z]) true).run Tryd.prog w = .ok (.tuple #[.int .i64 (((lookK 43 x y z).getD 0 : Nat) : Int), .bool (lookK 43 x y z).isSome]) w := by
  obtain ⟨v, ps, hrun, hv⟩ := h.look_ok (key := .agg #[.int .u64 x, .int .u64 y, .int .u64 z]) (z := .int .i64 0) law40 Tryd.underlying67 (by rfl) (plainElem_int Tryd.underlying3 (by decide)) (key_is x y z hx hy hz)
  have g := Dk_look x y z hx hy hz 43
  obtain ⟨c, rfl, hc, hwc⟩ := plainElem_int_inv Tryd.underlying3 hv
  have hc2 : (.lit (.int .i64 c) : DataW Unit) = .lit (.int .i64 (((lookK 43 x y z).getD 0 : Nat) : Int)) := (congrArg Prod.fst hc).symm.trans g.1
  injection hc2 with hc2
  injection hc2 with _ hc2
  rw [hrun, g.2, hc2]
theorem lookK_lt (x y z : Int) : ∀ n j, lookK n x y z = some j → j < n
  | 0, j, h => by simp [lookK] at h
  | n + 1, j, h => by
    unfold lookK at h
    by_cases g : x = lo n ∧ y = kd n ∧ z = tp n
    · rw [if_pos g] at h; injection h with h; omega
    · rw [if_neg g] at h; have := lookK_lt x y z n j h; omega
theorem cells_at (W : World) (vals : Array Value) (ty b : Nat) (hb : b = W.heap.size) (j : Nat) (u : Value) (h : vals[j]? = some u) : (W.alloc (.cells vals ty)).cell? ⟨b, j, none⟩ = some u := by
  subst hb
  simp [h]
/-- One of find's four tries. -/
def stepF (k t7 t6 a b c : Int) : Option Nat :=
  match lookK 43 a b c with
  | none => none
  | some x => if (fm x = .R ∧ c = t7) ∨ ((22 ≤ x ∧ x ≤ 24) ∧ c = t6) ∨ (fm x ≠ .R ∧ ¬ (22 ≤ x ∧ x ≤ 24) ∧ (b = k ∨ fm x = .U ∨ fm x = .J)) then some x else none
def candA (o : Int) (_ : Nat) : Int := o
def candB (k : Int) (j : Nat) : Int := if j < 3 then k else 0
def candC (t7 t6 : Int) (j : Nat) : Int := if j = 0 then t7 else if j = 1 then t6 else 0

theorem wfU (x : BitVec 64) : (Lit.int .u64 (U x)).wf = true := WalkArith.wf_u64 ⟨U_nonneg x, by have := U_lt x; omega⟩
abbrev stp (v : BitVec 64) (j : Nat) : Option Nat := stepF (U (fld v 12 3)) (U (fld v 25 7)) (U (fld v 26 6)) (candA (U (fld v 0 7)) j) (candB (U (fld v 12 3)) j) (candC (U (fld v 25 7)) (U (fld v 26 6)) j)
def findF (v : BitVec 64) : Option Nat :=
  match stp v 0 with
  | some x => some x
  | none => match stp v 1 with
    | some x => some x
    | none => match stp v 2 with
      | some x => some x
      | none => stp v 3
theorem findF_at (v : BitVec 64) (x : Nat) : ∀ k, k < 4 → (∀ j, j < k → stp v j = none) → stp v k = some x → findF v = some x
  | 0, _, _, h => by unfold findF; rw [h]
  | 1, _, g, h => by unfold findF; rw [g 0 (by decide), h]
  | 2, _, g, h => by unfold findF; rw [g 0 (by decide), g 1 (by decide), h]
  | 3, _, g, h => by unfold findF; rw [g 0 (by decide), g 1 (by decide), g 2 (by decide)]; exact h
  | n + 4, h, _, _ => absurd h (by omega)
theorem findF_none (v : BitVec 64) (g : ∀ j, j < 4 → stp v j = none) : findF v = none := by
  unfold findF; rw [g 0 (by decide), g 1 (by decide), g 2 (by decide)]; exact g 3 (by decide)
def foundV : Option Nat → Value
  | some x => .tuple #[.int .i64 (x : Int), .string (fm x).s, .bool true]
  | none => .tuple #[.int .i64 0, .string ⟨#[]⟩, .bool false]
theorem candA_wf (v : BitVec 64) (j : Nat) : (Lit.int .u64 (candA (U (fld v 0 7)) j)).wf = true := wfU _
theorem candB_wf (v : BitVec 64) (j : Nat) : (Lit.int .u64 (candB (U (fld v 12 3)) j)).wf = true := by
  unfold candB
  split
  · exact wfU _
  · decide
theorem candC_wf (v : BitVec 64) (j : Nat) : (Lit.int .u64 (candC (U (fld v 25 7)) (U (fld v 26 6)) j)).wf = true := by
  unfold candC
  split
  · exact wfU _
  · split
    · exact wfU _
    · decide
set_option maxHeartbeats 8000000 in
set_option maxRecDepth 100000 in
theorem find_c (v : BitVec 64) (w : World) (L : Laid w) :
    Calls Tryd.prog 30 #[.int .u64 (U v)] w fun e w' => e = .returned (foundV (findF v)) ∧ Below w.heap.size w w' := by
  have hs0 : 0 < w.heap.size := L.size
  have hc0 : ∀ n, ((w.alloc (.cells #[.int .u64 (U v)] 38)).drewN n).cell? ⟨w.heap.size, 0, none⟩ = some (.int .u64 (U v)) := fun n => by simp
  have hc00 : (w.alloc (.cells #[.int .u64 (U v)] 38)).cell? ⟨w.heap.size, 0, none⟩ = some (.int .u64 (U v)) := by simp
  have hL : ∀ n, Laid ((w.alloc (.cells #[.int .u64 (U v)] 38)).drewN n) := fun n => L.below (pw_below_drewN ((Below.refl w.heap.size w).alloc (Nat.le_refl _) _) _)
  have hk : ∀ n, Calls Tryd.prog 41 #[] ((w.alloc (.cells #[.int .u64 (U v)] 38)).drewN n) fun e w1 => e = .returned (.map (some (w.heap.size + 1))) ∧ w1.ownsMap Tryd.prog 40 (plainElem Tryd.prog 3) (w.heap.size + 1) 43 (Dk 43) ∧ Below w.heap.size w w1 ∧
      w1.cell? ⟨w.heap.size, 0, none⟩ = some (.int .u64 (U v)) ∧ w.heap.size + 1 < w1.heap.size := by
    intro n
    have hsz : ((w.alloc (.cells #[.int .u64 (U v)] 38)).drewN n).heap.size = w.heap.size + 1 := by simp
    refine (known_c _ (hL n)).mono ?_
    rintro e w1 ⟨rfl, hown, hb⟩
    rw [hsz] at hown hb ⊢
    refine ⟨rfl, hown, (pw_below_drewN ((Below.refl w.heap.size w).alloc (Nat.le_refl _) _) n).trans (hb.mono (Nat.le_succ _)), (hb.cell (p := ⟨w.heap.size, 0, none⟩) (Nat.lt_succ_self _)).trans (hc0 n), hown.lt⟩
  go_enter Tryd.func30, Tryd.ntmps30
  go_wp2_with (first | (go_at_call 40; with_reducible refine (field0 v w.heap.size _ hc00).mono ?_; rintro e w' ⟨rfl, ⟨nd, rfl⟩⟩) | (go_at_call 40; with_reducible refine (field12 v w.heap.size _ (hc0 _)).mono ?_; rintro e w' ⟨rfl, ⟨nd2, rfl⟩⟩) | (go_at_call 40; with_reducible refine (field25 v w.heap.size _ hc1).mono ?_; rintro e w' ⟨rfl, ⟨nd3, rfl⟩⟩) | (go_at_call 40; with_reducible refine (field26 v w.heap.size _ (hc2 _)).mono ?_; rintro e w' ⟨rfl, ⟨nd4, rfl⟩⟩) | (go_at_call 41; refine (hk _).mono ?_; rintro e w1 ⟨rfl, hown, hb, hc1, hs1⟩; have hc2 : ∀ n, (w1.drewN n).cell? ⟨w.heap.size, 0, none⟩ = some (.int .u64 (U v)) := fun n => hc1))
  have hB2 : Below w.heap.size w ((w1.drewN (nd3 + nd4)).alloc (.cells #[.int .u64 (U (fld v 0 7)), .int .u64 (U (fld v 12 3)), .int .u64 (U (fld v 25 7)), .int .u64 (U (fld v 0 7)), .int .u64 (U (fld v 12 3)), .int .u64 (U (fld v 26 6)), .int .u64 (U (fld v 0 7)), .int .u64 (U (fld v 12 3)), .int .u64 0, .int .u64 (U (fld v 0 7)), .int .u64 0, .int .u64 0] 40)) := (pw_below_drewN hb _).alloc (Nat.le_trans hb.size (Nat.le_refl _)) _
  have hown2 : ((w1.drewN (nd3 + nd4)).alloc (.cells #[.int .u64 (U (fld v 0 7)), .int .u64 (U (fld v 12 3)), .int .u64 (U (fld v 25 7)), .int .u64 (U (fld v 0 7)), .int .u64 (U (fld v 12 3)), .int .u64 (U (fld v 26 6)), .int .u64 (U (fld v 0 7)), .int .u64 (U (fld v 12 3)), .int .u64 0, .int .u64 (U (fld v 0 7)), .int .u64 0, .int .u64 0] 40)).ownsMap Tryd.prog 40 (plainElem Tryd.prog 3) (w.heap.size + 1) 43 (Dk 43) := World.ownsMap.alloc (w := w1.drewN (nd3 + nd4)) hown _
  have hcv : ((w1.drewN (nd3 + nd4)).alloc (.cells #[.int .u64 (U (fld v 0 7)), .int .u64 (U (fld v 12 3)), .int .u64 (U (fld v 25 7)), .int .u64 (U (fld v 0 7)), .int .u64 (U (fld v 12 3)), .int .u64 (U (fld v 26 6)), .int .u64 (U (fld v 0 7)), .int .u64 (U (fld v 12 3)), .int .u64 0, .int .u64 (U (fld v 0 7)), .int .u64 0, .int .u64 0] 40)).cell? ⟨w.heap.size, 0, none⟩ = some (.int .u64 (U v)) := (World.cell?_alloc_lt _ _ _ (by simp; omega)).trans (hc2 _)
  have hcc : ∀ j, j < 4 → ((w1.drewN (nd3 + nd4)).alloc (.cells #[.int .u64 (U (fld v 0 7)), .int .u64 (U (fld v 12 3)), .int .u64 (U (fld v 25 7)), .int .u64 (U (fld v 0 7)), .int .u64 (U (fld v 12 3)), .int .u64 (U (fld v 26 6)), .int .u64 (U (fld v 0 7)), .int .u64 (U (fld v 12 3)), .int .u64 0, .int .u64 (U (fld v 0 7)), .int .u64 0, .int .u64 0] 40)).cell? ⟨w1.heap.size, j * 3, none⟩ = some (.int .u64 (candA (U (fld v 0 7)) j)) ∧ ((w1.drewN (nd3 + nd4)).alloc (.cells #[.int .u64 (U (fld v 0 7)), .int .u64 (U (fld v 12 3)), .int .u64 (U (fld v 25 7)), .int .u64 (U (fld v 0 7)), .int .u64 (U (fld v 12 3)), .int .u64 (U (fld v 26 6)), .int .u64 (U (fld v 0 7)), .int .u64 (U (fld v 12 3)), .int .u64 0, .int .u64 (U (fld v 0 7)), .int .u64 0, .int .u64 0] 40)).cell? ⟨w1.heap.size, j * 3 + 1, none⟩ = some (.int .u64 (candB (U (fld v 12 3)) j))
      ∧ ((w1.drewN (nd3 + nd4)).alloc (.cells #[.int .u64 (U (fld v 0 7)), .int .u64 (U (fld v 12 3)), .int .u64 (U (fld v 25 7)), .int .u64 (U (fld v 0 7)), .int .u64 (U (fld v 12 3)), .int .u64 (U (fld v 26 6)), .int .u64 (U (fld v 0 7)), .int .u64 (U (fld v 12 3)), .int .u64 0, .int .u64 (U (fld v 0 7)), .int .u64 0, .int .u64 0] 40)).cell? ⟨w1.heap.size, j * 3 + 2, none⟩ = some (.int .u64 (candC (U (fld v 25 7)) (U (fld v 26 6)) j)) := by
    intro j hj
    match j, hj with
    | 0, _ => exact ⟨cells_at _ _ _ _ rfl 0 _ rfl, cells_at _ _ _ _ rfl 1 _ rfl, cells_at _ _ _ _ rfl 2 _ rfl⟩
    | 1, _ => exact ⟨cells_at _ _ _ _ rfl 3 _ rfl, cells_at _ _ _ _ rfl 4 _ rfl, cells_at _ _ _ _ rfl 5 _ rfl⟩
    | 2, _ => exact ⟨cells_at _ _ _ _ rfl 6 _ rfl, cells_at _ _ _ _ rfl 7 _ rfl, cells_at _ _ _ _ rfl 8 _ rfl⟩
    | 3, _ => exact ⟨cells_at _ _ _ _ rfl 9 _ rfl, cells_at _ _ _ _ rfl 10 _ rfl, cells_at _ _ _ _ rfl 11 _ rfl⟩
    | n + 4, h => exact absurd h (by omega)
  have hs2 : w1.heap.size < ((w1.drewN (nd3 + nd4)).alloc (.cells #[.int .u64 (U (fld v 0 7)), .int .u64 (U (fld v 12 3)), .int .u64 (U (fld v 25 7)), .int .u64 (U (fld v 0 7)), .int .u64 (U (fld v 12 3)), .int .u64 (U (fld v 26 6)), .int .u64 (U (fld v 0 7)), .int .u64 (U (fld v 12 3)), .int .u64 0, .int .u64 (U (fld v 0 7)), .int .u64 0, .int .u64 0] 40)).heap.size := by simp
  generalize (w1.drewN (nd3 + nd4)).alloc (.cells #[.int .u64 (U (fld v 0 7)), .int .u64 (U (fld v 12 3)), .int .u64 (U (fld v 25 7)), .int .u64 (U (fld v 0 7)), .int .u64 (U (fld v 12 3)), .int .u64 (U (fld v 26 6)), .int .u64 (U (fld v 0 7)), .int .u64 (U (fld v 12 3)), .int .u64 0, .int .u64 (U (fld v 0 7)), .int .u64 0, .int .u64 0] 40) = W2 at hB2 hown2 hcv hcc hs2 ⊢
  have hlook := look_eq hown2
  go_loopw [39] (fun v39 wr => ∃ k : Nat, k ≤ 4 ∧ v39 = .int .i64 (k : Int) ∧ Below W2.heap.size W2 wr ∧ (∀ j, j < k → stepF (U (fld v 12 3)) (U (fld v 25 7)) (U (fld v 26 6)) (candA (U (fld v 0 7)) j) (candB (U (fld v 12 3)) j) (candC (U (fld v 25 7)) (U (fld v 26 6)) j) = none)) (fun v39 wr => match v39 with | .int _ n => (4 - n).toNat | _ => 0)
  · exact ⟨0, by omega, rfl, Below.refl _ _, fun j hj => absurd hj (by omega)⟩
  obtain ⟨k, hk4, rfl, hbel, hno⟩ := hrel
  have Lr : Laid wr := L.below (hB2.trans (hbel.mono hB2.size))
  have hlr := look_eq (ownsMap_below hown2 hbel (by omega))
  have hvr : wr.cell? ⟨w.heap.size, 0, none⟩ = some (.int .u64 (U v)) := (hbel.cell (p := ⟨w.heap.size, 0, none⟩) (show w.heap.size < W2.heap.size by omega)).trans hcv
  by_cases hlt : k < 4
  · obtain ⟨hx0, hx1, hx2⟩ := hcc k hlt
    have hy0 := (hbel.cell (p := ⟨w1.heap.size, k * 3, none⟩) hs2).trans hx0
    have hy1 := (hbel.cell (p := ⟨w1.heap.size, k * 3 + 1, none⟩) hs2).trans hx1
    have hy2 := (hbel.cell (p := ⟨w1.heap.size, k * 3 + 2, none⟩) hs2).trans hx2
    clear hlook hx0 hx1 hx2
    have hlk := fun o => look_eq ((ownsMap_below hown2 hbel (by omega)).alloc o) (candA (U (fld v 0 7)) k) (candB (U (fld v 12 3)) k) (candC (U (fld v 25 7)) (U (fld v 26 6)) k) (candA_wf v k) (candB_wf v k) (candC_wf v k)
    rcases hL : lookK 43 (candA (U (fld v 0 7)) k) (candB (U (fld v 12 3)) k) (candC (U (fld v 25 7)) (U (fld v 26 6)) k) with _ | x
    · have hnone : stepF (U (fld v 12 3)) (U (fld v 25 7)) (U (fld v 26 6)) (candA (U (fld v 0 7)) k) (candB (U (fld v 12 3)) k) (candC (U (fld v 25 7)) (U (fld v 26 6)) k) = none := by unfold stepF; rw [hL]
      rw [hL] at hlk
      simp only [Option.getD_none, Option.isSome_none] at hlk
      go_wp2
      go_roundw
      case rel =>
        refine ⟨k + 1, by omega, by simp, hbel.alloc hbel.size _, fun j hj => ?_⟩
        rcases Nat.lt_succ_iff_lt_or_eq.1 hj with g | rfl
        · exact hno j g
        · exact hnone
      case measure =>
        show (4 - ((k : Int) + 1)).toNat < (4 - (k : Int)).toNat
        omega
    · have hx := lookK_lt _ _ _ _ _ hL
      have hx0 : (0 : Int) ≤ (x : Int) := by omega
      have hx1 : (x : Int) < 43 := by omega
      rw [hL] at hlk
      simp only [Option.getD_some, Option.isSome_some] at hlk
      have ht := fun o => (World.cell?_alloc_lt wr o ⟨0, x * 4, none⟩ Lr.size).trans (Lr.form x (by omega))
      have hvq := fun o => (World.cell?_alloc_lt wr o ⟨w.heap.size, 0, none⟩ (show w.heap.size < wr.heap.size by have := hbel.size; omega)).trans hvr
      have hstp : stp v k = if (fm x = .R ∧ candC (U (fld v 25 7)) (U (fld v 26 6)) k = U (fld v 25 7)) ∨ ((22 ≤ x ∧ x ≤ 24) ∧ candC (U (fld v 25 7)) (U (fld v 26 6)) k = U (fld v 26 6)) ∨ (fm x ≠ .R ∧ ¬ (22 ≤ x ∧ x ≤ 24) ∧ (candB (U (fld v 12 3)) k = U (fld v 12 3) ∨ fm x = .U ∨ fm x = .J)) then some x else none := by unfold stp stepF; rw [hL]
      have hsh := shift_c (x : Int)
      cases hf : fm x
      · rw [hf] at ht
        simp only [Fm.s] at ht
        have hns : ¬ (22 ≤ x ∧ x ≤ 24) := fun hh => by unfold fm at hf; rw [if_neg (by omega), if_pos (by omega)] at hf; exact absurd hf (by decide)
        have hsd : decide (22 ≤ (x : Int) ∧ (x : Int) ≤ 24) = false := decide_eq_false (by omega)
        rw [hsd] at hsh
        by_cases hc : candC (U (fld v 25 7)) (U (fld v 26 6)) k = U (fld v 25 7)
        · have hcd : decide (candC (U (fld v 25 7)) (U (fld v 26 6)) k = U (fld v 25 7)) = true := decide_eq_true hc
          have hst : stp v k = some x := by rw [hstp, hf]; rw [if_pos (Or.inl ⟨rfl, hc⟩)]
          clear hstp hL hc 
          go_wp2
          have hc := of_decide_eq_true hcd
          go_quiet (first | (go_at_call 40; exact quiet25 v w.heap.size _ _ (hvq _)) | (go_at_call 18; exact quietSh x false _ _ hsd))
          go_wp2_with (go_at_call 18; refine (hsh _).mono ?_; rintro e w' ⟨rfl, ⟨nd5, rfl⟩⟩)
          refine bodyPost_ret (v := .tuple #[.int .i64 (x : Int), .string ⟨#[82]⟩, .bool true]) (by simp [results, Tryd.results30, go_sem]) rfl ⟨?_, ?_⟩
          · rw [findF_at v x k hlt hno hst]; show _ = Ending.returned (.tuple #[.int .i64 (x : Int), .string (fm x).s, .bool true]); rw [hf]; rfl
          · exact hB2.trans (Below.mono (by repeat (first | exact hbel.alloc hbel.size _ | apply pw_below_drewN)) hB2.size)
        · have hcd : decide (candC (U (fld v 25 7)) (U (fld v 26 6)) k = U (fld v 25 7)) = false := decide_eq_false hc
          have hcq : (candC (U (fld v 25 7)) (U (fld v 26 6)) k == U (fld v 25 7)) = false := beq_eq_false_iff_ne.2 hc
          have hst : stp v k = none := by rw [hstp, hf]; rw [if_neg (fun g => g.elim (fun h => hc h.2) (fun g => g.elim (fun h => hns h.1) (fun h => h.1 rfl)))]
          clear hstp hL hc 
          go_wp2
          go_quiet (first | (go_at_call 40; exact quiet25 v w.heap.size _ _ (hvq _)) | (go_at_call 18; exact quietSh x false _ _ hsd))
          go_wp2_with (go_at_call 18; refine (hsh _).mono ?_; rintro e w' ⟨rfl, ⟨nd5, rfl⟩⟩)
          go_roundw
          case rel =>
            refine ⟨k + 1, by omega, by simp, by repeat (first | exact hbel.alloc hbel.size _ | apply pw_below_drewN), fun j hj => ?_⟩
            rcases Nat.lt_succ_iff_lt_or_eq.1 hj with g | rfl
            · exact hno j g
            · exact hst
          case measure =>
            show (4 - ((k : Int) + 1)).toNat < (4 - (k : Int)).toNat
            omega
      · rw [hf] at ht
        simp only [Fm.s] at ht
        by_cases hs : 22 ≤ x ∧ x ≤ 24
        · have hsd : decide (22 ≤ (x : Int) ∧ (x : Int) ≤ 24) = true := decide_eq_true (by omega)
          rw [hsd] at hsh
          by_cases hc : candC (U (fld v 25 7)) (U (fld v 26 6)) k = U (fld v 26 6)
          · have hcd : decide (candC (U (fld v 25 7)) (U (fld v 26 6)) k = U (fld v 26 6)) = true := decide_eq_true hc
            have hst : stp v k = some x := by rw [hstp, hf]; rw [if_pos (Or.inr (Or.inl ⟨hs, hc⟩))]
            clear hstp hL hc 
            go_wp2
            have hc := of_decide_eq_true hcd
            go_quiet (first | (go_at_call 40; exact quiet26 v w.heap.size _ _ (hvq _)) | (go_at_call 18; exact quietSh x true _ _ hsd))
            go_wp2_with (go_at_call 18; refine (hsh _).mono ?_; rintro e w' ⟨rfl, ⟨nd5, rfl⟩⟩)
            refine bodyPost_ret (v := .tuple #[.int .i64 (x : Int), .string ⟨#[73]⟩, .bool true]) (by simp [results, Tryd.results30, go_sem]) rfl ⟨?_, ?_⟩
            · rw [findF_at v x k hlt hno hst]; show _ = Ending.returned (.tuple #[.int .i64 (x : Int), .string (fm x).s, .bool true]); rw [hf]; rfl
            · exact hB2.trans (Below.mono (by repeat (first | exact hbel.alloc hbel.size _ | apply pw_below_drewN)) hB2.size)
          · have hcd : decide (candC (U (fld v 25 7)) (U (fld v 26 6)) k = U (fld v 26 6)) = false := decide_eq_false hc
            have hcq : (candC (U (fld v 25 7)) (U (fld v 26 6)) k == U (fld v 26 6)) = false := beq_eq_false_iff_ne.2 hc
            have hst : stp v k = none := by rw [hstp, hf]; rw [if_neg (fun g => g.elim (fun h => absurd h.1 (by decide)) (fun g => g.elim (fun h => hc h.2) (fun h => h.2.1 hs)))]
            clear hstp hL hc 
            go_wp2
            go_quiet (first | (go_at_call 40; exact quiet26 v w.heap.size _ _ (hvq _)) | (go_at_call 18; exact quietSh x true _ _ hsd))
            go_wp2_with (go_at_call 18; refine (hsh _).mono ?_; rintro e w' ⟨rfl, ⟨nd5, rfl⟩⟩)
            go_roundw
            case rel =>
              refine ⟨k + 1, by omega, by simp, by repeat (first | exact hbel.alloc hbel.size _ | apply pw_below_drewN), fun j hj => ?_⟩
              rcases Nat.lt_succ_iff_lt_or_eq.1 hj with g | rfl
              · exact hno j g
              · exact hst
            case measure =>
              show (4 - ((k : Int) + 1)).toNat < (4 - (k : Int)).toNat
              omega
        · have hsd : decide (22 ≤ (x : Int) ∧ (x : Int) ≤ 24) = false := decide_eq_false (by omega)
          rw [hsd] at hsh
          by_cases hb4 : candB (U (fld v 12 3)) k = U (fld v 12 3)
          · have hbd : decide (candB (U (fld v 12 3)) k = U (fld v 12 3)) = true := decide_eq_true hb4
            have hst : stp v k = some x := by rw [hstp, hf]; rw [if_pos (Or.inr (Or.inr ⟨by decide, hs, Or.inl hb4⟩))]
            clear hstp hL  hb4
            go_wp2
            go_quiet (first | (go_at_call 18; exact quietSh x false _ _ hsd))
            have hb5 := of_decide_eq_true hbd
            go_wp2_with (go_at_call 18; refine (hsh _).mono ?_; rintro e w' ⟨rfl, ⟨nd5, rfl⟩⟩)
            refine bodyPost_ret (v := .tuple #[.int .i64 (x : Int), .string ⟨#[73]⟩, .bool true]) (by simp [results, Tryd.results30, go_sem]) rfl ⟨?_, ?_⟩
            · rw [findF_at v x k hlt hno hst]; show _ = Ending.returned (.tuple #[.int .i64 (x : Int), .string (fm x).s, .bool true]); rw [hf]; rfl
            · exact hB2.trans (Below.mono (by repeat (first | exact hbel.alloc hbel.size _ | apply pw_below_drewN)) hB2.size)
          · have hbd : decide (candB (U (fld v 12 3)) k = U (fld v 12 3)) = false := decide_eq_false hb4
            have hbq : (candB (U (fld v 12 3)) k == U (fld v 12 3)) = false := beq_eq_false_iff_ne.2 hb4
            have hst : stp v k = none := by rw [hstp, hf]; rw [if_neg (fun g => g.elim (fun h => absurd h.1 (by decide)) (fun g => g.elim (fun h => hs h.1) (fun h => h.2.2.elim hb4 (fun g => g.elim (fun e => absurd e (by decide)) (fun e => absurd e (by decide))))))]
            clear hstp hL  hb4
            go_wp2
            go_quiet (first | (go_at_call 18; exact quietSh x false _ _ hsd))
            go_wp2_with (go_at_call 18; refine (hsh _).mono ?_; rintro e w' ⟨rfl, ⟨nd5, rfl⟩⟩)
            go_roundw
            case rel =>
              refine ⟨k + 1, by omega, by simp, by repeat (first | exact hbel.alloc hbel.size _ | apply pw_below_drewN), fun j hj => ?_⟩
              rcases Nat.lt_succ_iff_lt_or_eq.1 hj with g | rfl
              · exact hno j g
              · exact hst
            case measure =>
              show (4 - ((k : Int) + 1)).toNat < (4 - (k : Int)).toNat
              omega
      · rw [hf] at ht
        simp only [Fm.s] at ht
        have hns : ¬ (22 ≤ x ∧ x ≤ 24) := fun hh => by unfold fm at hf; rw [if_neg (by omega), if_pos (by omega)] at hf; exact absurd hf (by decide)
        have hsd : decide (22 ≤ (x : Int) ∧ (x : Int) ≤ 24) = false := decide_eq_false (by omega)
        rw [hsd] at hsh
        by_cases hb4 : candB (U (fld v 12 3)) k = U (fld v 12 3)
        · have hbd : decide (candB (U (fld v 12 3)) k = U (fld v 12 3)) = true := decide_eq_true hb4
          have hst : stp v k = some x := by rw [hstp, hf]; rw [if_pos (Or.inr (Or.inr ⟨by decide, hns, Or.inl hb4⟩))]
          clear hstp hL  hb4
          go_wp2
          go_quiet (first | (go_at_call 18; exact quietSh x false _ _ hsd))
          have hb5 := of_decide_eq_true hbd
          go_wp2_with (go_at_call 18; refine (hsh _).mono ?_; rintro e w' ⟨rfl, ⟨nd5, rfl⟩⟩)
          refine bodyPost_ret (v := .tuple #[.int .i64 (x : Int), .string ⟨#[83]⟩, .bool true]) (by simp [results, Tryd.results30, go_sem]) rfl ⟨?_, ?_⟩
          · rw [findF_at v x k hlt hno hst]; show _ = Ending.returned (.tuple #[.int .i64 (x : Int), .string (fm x).s, .bool true]); rw [hf]; rfl
          · exact hB2.trans (Below.mono (by repeat (first | exact hbel.alloc hbel.size _ | apply pw_below_drewN)) hB2.size)
        · have hbd : decide (candB (U (fld v 12 3)) k = U (fld v 12 3)) = false := decide_eq_false hb4
          have hbq : (candB (U (fld v 12 3)) k == U (fld v 12 3)) = false := beq_eq_false_iff_ne.2 hb4
          have hst : stp v k = none := by rw [hstp, hf]; rw [if_neg (fun g => g.elim (fun h => absurd h.1 (by decide)) (fun g => g.elim (fun h => hns h.1) (fun h => h.2.2.elim hb4 (fun g => g.elim (fun e => absurd e (by decide)) (fun e => absurd e (by decide))))))]
          clear hstp hL  hb4
          go_wp2
          go_quiet (first | (go_at_call 18; exact quietSh x false _ _ hsd))
          go_wp2_with (go_at_call 18; refine (hsh _).mono ?_; rintro e w' ⟨rfl, ⟨nd5, rfl⟩⟩)
          go_roundw
          case rel =>
            refine ⟨k + 1, by omega, by simp, by repeat (first | exact hbel.alloc hbel.size _ | apply pw_below_drewN), fun j hj => ?_⟩
            rcases Nat.lt_succ_iff_lt_or_eq.1 hj with g | rfl
            · exact hno j g
            · exact hst
          case measure =>
            show (4 - ((k : Int) + 1)).toNat < (4 - (k : Int)).toNat
            omega
      · rw [hf] at ht
        simp only [Fm.s] at ht
        have hns : ¬ (22 ≤ x ∧ x ≤ 24) := fun hh => by unfold fm at hf; rw [if_neg (by omega), if_pos (by omega)] at hf; exact absurd hf (by decide)
        have hsd : decide (22 ≤ (x : Int) ∧ (x : Int) ≤ 24) = false := decide_eq_false (by omega)
        rw [hsd] at hsh
        by_cases hb4 : candB (U (fld v 12 3)) k = U (fld v 12 3)
        · have hbd : decide (candB (U (fld v 12 3)) k = U (fld v 12 3)) = true := decide_eq_true hb4
          have hst : stp v k = some x := by rw [hstp, hf]; rw [if_pos (Or.inr (Or.inr ⟨by decide, hns, Or.inl hb4⟩))]
          clear hstp hL  hb4
          go_wp2
          go_quiet (first | (go_at_call 18; exact quietSh x false _ _ hsd))
          have hb5 := of_decide_eq_true hbd
          go_wp2_with (go_at_call 18; refine (hsh _).mono ?_; rintro e w' ⟨rfl, ⟨nd5, rfl⟩⟩)
          refine bodyPost_ret (v := .tuple #[.int .i64 (x : Int), .string ⟨#[66]⟩, .bool true]) (by simp [results, Tryd.results30, go_sem]) rfl ⟨?_, ?_⟩
          · rw [findF_at v x k hlt hno hst]; show _ = Ending.returned (.tuple #[.int .i64 (x : Int), .string (fm x).s, .bool true]); rw [hf]; rfl
          · exact hB2.trans (Below.mono (by repeat (first | exact hbel.alloc hbel.size _ | apply pw_below_drewN)) hB2.size)
        · have hbd : decide (candB (U (fld v 12 3)) k = U (fld v 12 3)) = false := decide_eq_false hb4
          have hbq : (candB (U (fld v 12 3)) k == U (fld v 12 3)) = false := beq_eq_false_iff_ne.2 hb4
          have hst : stp v k = none := by rw [hstp, hf]; rw [if_neg (fun g => g.elim (fun h => absurd h.1 (by decide)) (fun g => g.elim (fun h => hns h.1) (fun h => h.2.2.elim hb4 (fun g => g.elim (fun e => absurd e (by decide)) (fun e => absurd e (by decide))))))]
          clear hstp hL  hb4
          go_wp2
          go_quiet (first | (go_at_call 18; exact quietSh x false _ _ hsd))
          go_wp2_with (go_at_call 18; refine (hsh _).mono ?_; rintro e w' ⟨rfl, ⟨nd5, rfl⟩⟩)
          go_roundw
          case rel =>
            refine ⟨k + 1, by omega, by simp, by repeat (first | exact hbel.alloc hbel.size _ | apply pw_below_drewN), fun j hj => ?_⟩
            rcases Nat.lt_succ_iff_lt_or_eq.1 hj with g | rfl
            · exact hno j g
            · exact hst
          case measure =>
            show (4 - ((k : Int) + 1)).toNat < (4 - (k : Int)).toNat
            omega
      · rw [hf] at ht
        simp only [Fm.s] at ht
        have hns : ¬ (22 ≤ x ∧ x ≤ 24) := fun hh => by unfold fm at hf; rw [if_neg (by omega), if_pos (by omega)] at hf; exact absurd hf (by decide)
        have hsd : decide (22 ≤ (x : Int) ∧ (x : Int) ≤ 24) = false := decide_eq_false (by omega)
        rw [hsd] at hsh
        by_cases hb4 : candB (U (fld v 12 3)) k = U (fld v 12 3)
        · have hbd : decide (candB (U (fld v 12 3)) k = U (fld v 12 3)) = true := decide_eq_true hb4
          have hst : stp v k = some x := by rw [hstp, hf]; rw [if_pos (Or.inr (Or.inr ⟨by decide, hns, Or.inl hb4⟩))]
          clear hstp hL  hb4
          go_wp2
          go_quiet (first | (go_at_call 18; exact quietSh x false _ _ hsd))
          have hb5 := of_decide_eq_true hbd
          go_wp2_with (go_at_call 18; refine (hsh _).mono ?_; rintro e w' ⟨rfl, ⟨nd5, rfl⟩⟩)
          refine bodyPost_ret (v := .tuple #[.int .i64 (x : Int), .string ⟨#[85]⟩, .bool true]) (by simp [results, Tryd.results30, go_sem]) rfl ⟨?_, ?_⟩
          · rw [findF_at v x k hlt hno hst]; show _ = Ending.returned (.tuple #[.int .i64 (x : Int), .string (fm x).s, .bool true]); rw [hf]; rfl
          · exact hB2.trans (Below.mono (by repeat (first | exact hbel.alloc hbel.size _ | apply pw_below_drewN)) hB2.size)
        · have hbd : decide (candB (U (fld v 12 3)) k = U (fld v 12 3)) = false := decide_eq_false hb4
          have hbq : (candB (U (fld v 12 3)) k == U (fld v 12 3)) = false := beq_eq_false_iff_ne.2 hb4
          have hst : stp v k = some x := by rw [hstp, hf]; rw [if_pos (Or.inr (Or.inr ⟨by decide, hns, Or.inr (by decide)⟩))]
          clear hstp hL  hb4
          go_wp2
          go_quiet (first | (go_at_call 18; exact quietSh x false _ _ hsd))
          go_wp2_with (go_at_call 18; refine (hsh _).mono ?_; rintro e w' ⟨rfl, ⟨nd5, rfl⟩⟩)
          refine bodyPost_ret (v := .tuple #[.int .i64 (x : Int), .string ⟨#[85]⟩, .bool true]) (by simp [results, Tryd.results30, go_sem]) rfl ⟨?_, ?_⟩
          · rw [findF_at v x k hlt hno hst]; show _ = Ending.returned (.tuple #[.int .i64 (x : Int), .string (fm x).s, .bool true]); rw [hf]; rfl
          · exact hB2.trans (Below.mono (by repeat (first | exact hbel.alloc hbel.size _ | apply pw_below_drewN)) hB2.size)
      · rw [hf] at ht
        simp only [Fm.s] at ht
        have hns : ¬ (22 ≤ x ∧ x ≤ 24) := fun hh => by unfold fm at hf; rw [if_neg (by omega), if_pos (by omega)] at hf; exact absurd hf (by decide)
        have hsd : decide (22 ≤ (x : Int) ∧ (x : Int) ≤ 24) = false := decide_eq_false (by omega)
        rw [hsd] at hsh
        by_cases hb4 : candB (U (fld v 12 3)) k = U (fld v 12 3)
        · have hbd : decide (candB (U (fld v 12 3)) k = U (fld v 12 3)) = true := decide_eq_true hb4
          have hst : stp v k = some x := by rw [hstp, hf]; rw [if_pos (Or.inr (Or.inr ⟨by decide, hns, Or.inl hb4⟩))]
          clear hstp hL  hb4
          go_wp2
          go_quiet (first | (go_at_call 18; exact quietSh x false _ _ hsd))
          have hb5 := of_decide_eq_true hbd
          go_wp2_with (go_at_call 18; refine (hsh _).mono ?_; rintro e w' ⟨rfl, ⟨nd5, rfl⟩⟩)
          refine bodyPost_ret (v := .tuple #[.int .i64 (x : Int), .string ⟨#[74]⟩, .bool true]) (by simp [results, Tryd.results30, go_sem]) rfl ⟨?_, ?_⟩
          · rw [findF_at v x k hlt hno hst]; show _ = Ending.returned (.tuple #[.int .i64 (x : Int), .string (fm x).s, .bool true]); rw [hf]; rfl
          · exact hB2.trans (Below.mono (by repeat (first | exact hbel.alloc hbel.size _ | apply pw_below_drewN)) hB2.size)
        · have hbd : decide (candB (U (fld v 12 3)) k = U (fld v 12 3)) = false := decide_eq_false hb4
          have hbq : (candB (U (fld v 12 3)) k == U (fld v 12 3)) = false := beq_eq_false_iff_ne.2 hb4
          have hst : stp v k = some x := by rw [hstp, hf]; rw [if_pos (Or.inr (Or.inr ⟨by decide, hns, Or.inr (by decide)⟩))]
          clear hstp hL  hb4
          go_wp2
          go_quiet (first | (go_at_call 18; exact quietSh x false _ _ hsd))
          go_wp2_with (go_at_call 18; refine (hsh _).mono ?_; rintro e w' ⟨rfl, ⟨nd5, rfl⟩⟩)
          refine bodyPost_ret (v := .tuple #[.int .i64 (x : Int), .string ⟨#[74]⟩, .bool true]) (by simp [results, Tryd.results30, go_sem]) rfl ⟨?_, ?_⟩
          · rw [findF_at v x k hlt hno hst]; show _ = Ending.returned (.tuple #[.int .i64 (x : Int), .string (fm x).s, .bool true]); rw [hf]; rfl
          · exact hB2.trans (Below.mono (by repeat (first | exact hbel.alloc hbel.size _ | apply pw_below_drewN)) hB2.size)
      · rw [hf] at ht
        simp only [Fm.s] at ht
        have hns : ¬ (22 ≤ x ∧ x ≤ 24) := fun hh => by unfold fm at hf; rw [if_neg (by omega), if_pos (by omega)] at hf; exact absurd hf (by decide)
        have hsd : decide (22 ≤ (x : Int) ∧ (x : Int) ≤ 24) = false := decide_eq_false (by omega)
        rw [hsd] at hsh
        by_cases hb4 : candB (U (fld v 12 3)) k = U (fld v 12 3)
        · have hbd : decide (candB (U (fld v 12 3)) k = U (fld v 12 3)) = true := decide_eq_true hb4
          have hst : stp v k = some x := by rw [hstp, hf]; rw [if_pos (Or.inr (Or.inr ⟨by decide, hns, Or.inl hb4⟩))]
          clear hstp hL  hb4
          go_wp2
          go_quiet (first | (go_at_call 18; exact quietSh x false _ _ hsd))
          have hb5 := of_decide_eq_true hbd
          go_wp2_with (go_at_call 18; refine (hsh _).mono ?_; rintro e w' ⟨rfl, ⟨nd5, rfl⟩⟩)
          refine bodyPost_ret (v := .tuple #[.int .i64 (x : Int), .string ⟨#[69]⟩, .bool true]) (by simp [results, Tryd.results30, go_sem]) rfl ⟨?_, ?_⟩
          · rw [findF_at v x k hlt hno hst]; show _ = Ending.returned (.tuple #[.int .i64 (x : Int), .string (fm x).s, .bool true]); rw [hf]; rfl
          · exact hB2.trans (Below.mono (by repeat (first | exact hbel.alloc hbel.size _ | apply pw_below_drewN)) hB2.size)
        · have hbd : decide (candB (U (fld v 12 3)) k = U (fld v 12 3)) = false := decide_eq_false hb4
          have hbq : (candB (U (fld v 12 3)) k == U (fld v 12 3)) = false := beq_eq_false_iff_ne.2 hb4
          have hst : stp v k = none := by rw [hstp, hf]; rw [if_neg (fun g => g.elim (fun h => absurd h.1 (by decide)) (fun g => g.elim (fun h => hns h.1) (fun h => h.2.2.elim hb4 (fun g => g.elim (fun e => absurd e (by decide)) (fun e => absurd e (by decide))))))]
          clear hstp hL  hb4
          go_wp2
          go_quiet (first | (go_at_call 18; exact quietSh x false _ _ hsd))
          go_wp2_with (go_at_call 18; refine (hsh _).mono ?_; rintro e w' ⟨rfl, ⟨nd5, rfl⟩⟩)
          go_roundw
          case rel =>
            refine ⟨k + 1, by omega, by simp, by repeat (first | exact hbel.alloc hbel.size _ | apply pw_below_drewN), fun j hj => ?_⟩
            rcases Nat.lt_succ_iff_lt_or_eq.1 hj with g | rfl
            · exact hno j g
            · exact hst
          case measure =>
            show (4 - ((k : Int) + 1)).toNat < (4 - (k : Int)).toNat
            omega
  · have hdec : decide ((k : Int) < 4) = false := by simp; omega
    go_wp2
    refine bodyPost_ret (v := .tuple #[.int .i64 0, .string ⟨#[]⟩, .bool false]) (by simp [results, Tryd.results30, go_sem]) rfl ⟨?_, hB2.trans (hbel.mono hB2.size)⟩
    obtain rfl : k = 4 := by omega
    rw [findF_none v hno]
    rfl
end Go.Proofs.YtbdlhhajblhmiaaDoor.Ins
