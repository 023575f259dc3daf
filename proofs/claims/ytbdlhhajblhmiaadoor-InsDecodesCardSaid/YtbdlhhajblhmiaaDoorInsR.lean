/- The operation of a word, and its instruction, said plainly: it is the one instruction whose word it is. No program in sight. -/
import Derived.Test.YtbdlhhajblhmiaaDoorInsP
set_option linter.unusedVariables false
set_option linter.unusedSimpArgs false
namespace Go.Proofs.YtbdlhhajblhmiaaDoor.Ins
open Go Go.RowKit Go.Proofs Go.Proofs.YtbdlhhajblhmiaaDoorW.PrintWords Go.Proofs.YtbdlhhajblhmiaaDoor.Bv Go.Proofs.YtbdlhhajblhmiaaDoor.Bw Go.Proofs.YtbdlhhajblhmiaaDoor.BL Go.Proofs.YtbdlhhajblhmiaaDoor.QEncode Go.Maps

/-- Whether a word's fields are an operation's. -/
def Fits (V : Nat) (x : Nat) : Prop :=
  V % 128 = lo x ∧
  match fm x with
  | .R => V / 4096 % 8 = kd x ∧ V / 33554432 % 128 = tp x
  | .I => V / 4096 % 8 = kd x ∧ (shf x = true → V / 67108864 % 64 = tp x)
  | .U => True
  | .J => True
  | _ => V / 4096 % 8 = kd x
theorem lookK_is (a b c : Int) : ∀ n j, lookK n a b c = some j → a = lo j ∧ b = kd j ∧ c = tp j
  | 0, j, h => by simp [lookK] at h
  | n + 1, j, h => by
    unfold lookK at h
    by_cases g : a = lo n ∧ b = kd n ∧ c = tp n
    · rw [if_pos g] at h; injection h with h; subst h; exact g
    · rw [if_neg g] at h; exact lookK_is a b c n j h
theorem lookK_self (x : Nat) (h : x ≤ 42) : lookK 43 (lo x) (kd x) (tp x) = some x := by
  have g : ∀ n : Fin 43, lookK 43 (lo n.val) (kd n.val) (tp n.val) = some n.val := by decide +kernel
  exact g ⟨x, by omega⟩
theorem tp_zero (x : Nat) (h : x ≤ 42) (h1 : fm x ≠ .R) (h2 : shf x = false) : tp x = 0 := by
  have g : ∀ n : Fin 43, fm n.val ≠ .R → shf n.val = false → tp n.val = 0 := by decide +kernel
  exact g ⟨x, by omega⟩ h1 h2
theorem kd_zero (x : Nat) (h : x ≤ 42) (h1 : fm x = .U ∨ fm x = .J) : kd x = 0 := by
  have g : ∀ n : Fin 43, (fm n.val = .U ∨ fm n.val = .J) → kd n.val = 0 := by decide +kernel
  exact g ⟨x, by omega⟩ h1
theorem shf_I (x : Nat) (h : shf x = true) : fm x = .I := by
  unfold shf at h
  have := of_decide_eq_true h
  unfold fm
  rw [if_neg (by omega), if_pos (by omega)]
theorem shf_iff (x : Nat) : shf x = true ↔ 22 ≤ x ∧ x ≤ 24 := by unfold shf; rw [decide_eq_true_eq]
/-- Two operations' fields tell them apart. -/
theorem apart (x y : Nat) (hx : x ≤ 42) (hy : y ≤ 42) (h : lo x = lo y) : x = y ∨ (kd x ≠ kd y ∧ fm x ≠ .U ∧ fm x ≠ .J ∧ fm y ≠ .U ∧ fm y ≠ .J) ∨ (fm x = .R ∧ fm y = .R ∧ tp x ≠ tp y) ∨ (shf x = true ∧ shf y = true ∧ tp x ≠ tp y) := by
  have g : ∀ n m : Fin 43, lo n.val = lo m.val → n.val = m.val ∨ (kd n.val ≠ kd m.val ∧ fm n.val ≠ .U ∧ fm n.val ≠ .J ∧ fm m.val ≠ .U ∧ fm m.val ≠ .J) ∨ (fm n.val = .R ∧ fm m.val = .R ∧ tp n.val ≠ tp m.val) ∨ (shf n.val = true ∧ shf m.val = true ∧ tp n.val ≠ tp m.val) := by decide +kernel
  exact g ⟨x, by omega⟩ ⟨y, by omega⟩ h
theorem fits_kd {V x : Nat} (h : Fits V x) (h1 : fm x ≠ .U) (h2 : fm x ≠ .J) : V / 4096 % 8 = kd x := by
  obtain ⟨_, h⟩ := h
  cases hf : fm x <;> rw [hf] at h h1 h2
  · exact h.1
  · exact h.1
  · exact h
  · exact h
  · exact absurd rfl h1
  · exact absurd rfl h2
  · exact h
theorem fits_one {V x y : Nat} (hx : x ≤ 42) (hy : y ≤ 42) (h : Fits V x) (k : Fits V y) : x = y := by
  rcases apart x y hx hy (h.1.symm.trans k.1) with e | ⟨e, e1, e2, e3, e4⟩ | ⟨e1, e2, e⟩ | ⟨e1, e2, e⟩
  · exact e
  · exact absurd ((fits_kd h e1 e2).symm.trans (fits_kd k e3 e4)) e
  · have h' := h.2; have k' := k.2
    rw [e1] at h'; rw [e2] at k'
    exact absurd (h'.2.symm.trans k'.2) e
  · have h' := h.2; have k' := k.2
    rw [shf_I x e1] at h'; rw [shf_I y e2] at k'
    exact absurd ((h'.2 e1).symm.trans (k'.2 e2)) e
theorem U_fld (v : BitVec 64) (f n : Nat) (h : n ≤ 64) : U (fld v f n) = ((v.toNat / 2 ^ f % 2 ^ n : Nat) : Int) := by unfold U; rw [fld_toNat v f n h]
theorem shf_kd (x : Nat) (h : shf x = true) : kd x ≠ 0 := by
  have := (shf_iff x).1 h
  have g : ∀ n : Fin 43, shf n.val = true → kd n.val ≠ 0 := by decide +kernel
  exact g ⟨x, by omega⟩ h
theorem all_R (k : Nat) (h : k < 8) : ∃ y, lookK 43 51 (k : Int) 0 = some y ∧ fm y = .R := by
  have g : ∀ n : Fin 8, ((lookK 43 51 ((n.val : Nat) : Int) 0).map fm) = some .R := by decide +kernel
  have e := g ⟨k, h⟩
  dsimp only at e
  cases hl : lookK 43 51 (k : Int) 0 with
  | none => rw [hl] at e; cases e
  | some y => rw [hl] at e; injection e with e; exact ⟨y, rfl, e⟩
theorem R_lo (x : Nat) (h : fm x = .R) : lo x = 51 := by
  unfold fm at h
  by_cases g : x ≤ 15
  · unfold lo; rw [if_pos g]
  · rw [if_neg g] at h
    exfalso
    (repeat' split at h) <;> cases h
/-- One try: what it finds fits. -/
theorem stepF_fits (o k t7 t6 j x : Nat) (hk8 : k < 8) (h : stepF (k : Int) (t7 : Int) (t6 : Int) (candA (o : Int) j) (candB (k : Int) j) (candC (t7 : Int) (t6 : Int) j) = some x)
    (h0 : j < 3 ∨ stepF (k : Int) (t7 : Int) (t6 : Int) (candA (o : Int) 0) (candB (k : Int) 0) (candC (t7 : Int) (t6 : Int) 0) = none) :
    o = lo x ∧ match fm x with
      | .R => k = kd x ∧ t7 = tp x
      | .I => k = kd x ∧ (shf x = true → t6 = tp x)
      | .U => True
      | .J => True
      | _ => k = kd x := by
  unfold stepF at h
  split at h
  · cases h
  · rename_i q hq
    obtain ⟨ha, hb, hc⟩ := lookK_is _ _ _ _ _ hq
    split at h
    · rename_i hcnd
      injection h with h
      subst h
      have eo : o = lo q := by unfold candA at ha; omega
      refine ⟨eo, ?_⟩
      by_cases hj : j < 3
      · have ek : k = kd q := by unfold candB at hb; rw [if_pos hj] at hb; omega
        cases hf : fm q <;> dsimp only
        · rcases hcnd with ⟨_, g⟩ | ⟨g, _⟩ | ⟨g, _⟩
          · exact ⟨ek, by omega⟩
          · have := shf_I q ((shf_iff q).2 g); rw [hf] at this; cases this
          · exact absurd hf g
        · refine ⟨ek, fun hs => ?_⟩
          rcases hcnd with ⟨g, _⟩ | ⟨_, g⟩ | ⟨_, g, _⟩
          · rw [hf] at g; cases g
          · omega
          · exact absurd ((shf_iff q).1 hs) g
        · exact ek
        · exact ek
        · exact ek
      · have eb : kd q = 0 := by unfold candB at hb; rw [if_neg hj] at hb; omega
        have ec : candC (t7 : Int) (t6 : Int) j = 0 := by unfold candC; rw [if_neg (by omega), if_neg (by omega)]
        have et : tp q = 0 := by rw [ec] at hc; omega
        rcases hcnd with ⟨g, g'⟩ | ⟨g, _⟩ | ⟨g, g', g''⟩
        · exfalso
          have e7 : t7 = 0 := by omega
          subst e7
          have eo' : o = 51 := by rw [eo, R_lo q g]
          subst eo'
          obtain ⟨y, hy, hR⟩ := all_R k hk8
          rcases h0 with h0 | h0
          · exact hj h0
          · unfold stepF candA candB candC at h0
            rw [if_pos (by decide), if_pos rfl] at h0
            have hy' : lookK 43 ((51 : Nat) : Int) (k : Int) ((0 : Nat) : Int) = some y := hy
            rw [hy'] at h0
            dsimp only at h0
            rw [if_pos (Or.inl ⟨hR, rfl⟩)] at h0
            cases h0
        · exact absurd eb (shf_kd q ((shf_iff q).2 g))
        · have eb' : candB (k : Int) j = 0 := by unfold candB; rw [if_neg hj]
          rw [eb'] at g''
          cases hf : fm q <;> rw [hf] at g g'' <;> dsimp only
          · exact absurd rfl g
          · refine ⟨?_, fun hs => absurd ((shf_iff q).1 hs) g'⟩
            rcases g'' with g'' | g'' | g''
            · omega
            · cases g''
            · cases g''
          · rcases g'' with g'' | g'' | g''
            · omega
            · cases g''
            · cases g''
          · rcases g'' with g'' | g'' | g''
            · omega
            · cases g''
            · cases g''
          · rcases g'' with g'' | g'' | g''
            · omega
            · cases g''
            · cases g''
    · cases h
theorem stp_nat (v : BitVec 64) (j : Nat) : stp v j = stepF ((v.toNat / 4096 % 8 : Nat) : Int) ((v.toNat / 33554432 % 128 : Nat) : Int) ((v.toNat / 67108864 % 64 : Nat) : Int) (candA ((v.toNat % 128 : Nat) : Int) j) (candB ((v.toNat / 4096 % 8 : Nat) : Int) j) (candC ((v.toNat / 33554432 % 128 : Nat) : Int) ((v.toNat / 67108864 % 64 : Nat) : Int) j) := by
  have hk : U (fld v 12 3) = ((v.toNat / 4096 % 8 : Nat) : Int) := U_fld v 12 3 (by decide)
  have h7 : U (fld v 25 7) = ((v.toNat / 33554432 % 128 : Nat) : Int) := U_fld v 25 7 (by decide)
  have h6 : U (fld v 26 6) = ((v.toNat / 67108864 % 64 : Nat) : Int) := U_fld v 26 6 (by decide)
  have ho : U (fld v 0 7) = ((v.toNat % 128 : Nat) : Int) := by rw [U_fld v 0 7 (by decide), Nat.pow_zero, Nat.div_one]
  unfold stp
  rw [hk, h7, h6, ho]
theorem stp_fits (v : BitVec 64) (j x : Nat) (h : stp v j = some x) (h0 : j < 3 ∨ stp v 0 = none) : Fits v.toNat x := by
  rw [stp_nat] at h h0
  have g := stepF_fits _ _ _ _ j x (by omega) h h0
  unfold Fits
  exact g
theorem find_fits (v : BitVec 64) (x : Nat) (h : findF v = some x) : Fits v.toNat x := by
  unfold findF at h
  split at h
  · rename_i q hq; injection h with h; subst h; exact stp_fits v 0 _ hq (Or.inl (by decide))
  · rename_i h0
    split at h
    · rename_i q hq; injection h with h; subst h; exact stp_fits v 1 _ hq (Or.inl (by decide))
    · split at h
      · rename_i q hq; injection h with h; subst h; exact stp_fits v 2 _ hq (Or.inl (by decide))
      · exact stp_fits v 3 _ h (Or.inr h0)
/-- Whatever fits is found by one of the tries. -/
theorem fits_stp (v : BitVec 64) (x : Nat) (hx : x ≤ 42) (h : Fits v.toNat x) : ∃ j, j < 4 ∧ stp v j = some x := by
  obtain ⟨ho, h⟩ := h
  have self := lookK_self x hx
  have mk : ∀ j, candB ((v.toNat / 4096 % 8 : Nat) : Int) j = (kd x : Int) → candC ((v.toNat / 33554432 % 128 : Nat) : Int) ((v.toNat / 67108864 % 64 : Nat) : Int) j = (tp x : Int) →
      ((fm x = .R ∧ (tp x : Int) = ((v.toNat / 33554432 % 128 : Nat) : Int)) ∨ ((22 ≤ x ∧ x ≤ 24) ∧ (tp x : Int) = ((v.toNat / 67108864 % 64 : Nat) : Int)) ∨ (fm x ≠ .R ∧ ¬ (22 ≤ x ∧ x ≤ 24) ∧ ((kd x : Int) = ((v.toNat / 4096 % 8 : Nat) : Int) ∨ fm x = .U ∨ fm x = .J))) → stp v j = some x := by
    intro j hb hc hcnd
    rw [stp_nat]
    unfold stepF candA
    rw [hb, hc, ho, self]
    dsimp only
    rw [if_pos hcnd]
  have zero : fm x ≠ .R → ¬ (22 ≤ x ∧ x ≤ 24) → tp x = 0 := fun h1 h2 => tp_zero x hx h1 (Bool.eq_false_iff.2 (fun e => h2 ((shf_iff x).1 e)))
  have c2 : candC ((v.toNat / 33554432 % 128 : Nat) : Int) ((v.toNat / 67108864 % 64 : Nat) : Int) 2 = 0 := by unfold candC; rw [if_neg (by decide), if_neg (by decide)]
  have c3 : candC ((v.toNat / 33554432 % 128 : Nat) : Int) ((v.toNat / 67108864 % 64 : Nat) : Int) 3 = 0 := by unfold candC; rw [if_neg (by decide), if_neg (by decide)]
  have b0 : ∀ j, j < 3 → candB ((v.toNat / 4096 % 8 : Nat) : Int) j = ((v.toNat / 4096 % 8 : Nat) : Int) := fun j hj => by unfold candB; rw [if_pos hj]
  have b3 : candB ((v.toNat / 4096 % 8 : Nat) : Int) 3 = 0 := by unfold candB; rw [if_neg (by decide)]
  have plain : fm x ≠ .R → ¬ (22 ≤ x ∧ x ≤ 24) → v.toNat / 4096 % 8 = kd x → ∃ j, j < 4 ∧ stp v j = some x := by
    intro h1 h2 h3
    have := zero h1 h2
    refine ⟨2, by decide, mk 2 (by rw [b0 2 (by decide)]; omega) (by rw [c2]; omega) (Or.inr (Or.inr ⟨h1, h2, Or.inl (by omega)⟩))⟩
  cases hf : fm x <;> rw [hf] at h
  · refine ⟨0, by decide, mk 0 (by rw [b0 0 (by decide)]; have := h.1; omega) ?_ (Or.inl ⟨hf, by have := h.2; omega⟩)⟩
    unfold candC; rw [if_pos rfl]; have := h.2; omega
  · by_cases hs : 22 ≤ x ∧ x ≤ 24
    · have e := h.2 ((shf_iff x).2 hs)
      refine ⟨1, by decide, mk 1 (by rw [b0 1 (by decide)]; have := h.1; omega) ?_ (Or.inr (Or.inl ⟨hs, by omega⟩))⟩
      unfold candC; rw [if_neg (by decide), if_pos rfl]; omega
    · exact plain (by rw [hf]; decide) hs h.1
  · exact plain (by rw [hf]; decide) (fun hs => by have := shf_I x ((shf_iff x).2 hs); rw [hf] at this; cases this) h
  · exact plain (by rw [hf]; decide) (fun hs => by have := shf_I x ((shf_iff x).2 hs); rw [hf] at this; cases this) h
  · have hns : ¬ (22 ≤ x ∧ x ≤ 24) := fun hs => by have := shf_I x ((shf_iff x).2 hs); rw [hf] at this; cases this
    have := zero (by rw [hf]; decide) hns
    have e := kd_zero x hx (Or.inl hf)
    exact ⟨3, by decide, mk 3 (by rw [b3]; omega) (by rw [c3]; omega) (Or.inr (Or.inr ⟨by rw [hf]; decide, hns, Or.inr (Or.inl hf)⟩))⟩
  · have hns : ¬ (22 ≤ x ∧ x ≤ 24) := fun hs => by have := shf_I x ((shf_iff x).2 hs); rw [hf] at this; cases this
    have := zero (by rw [hf]; decide) hns
    have e := kd_zero x hx (Or.inr hf)
    exact ⟨3, by decide, mk 3 (by rw [b3]; omega) (by rw [c3]; omega) (Or.inr (Or.inr ⟨by rw [hf]; decide, hns, Or.inr (Or.inr hf)⟩))⟩
  · exact plain (by rw [hf]; decide) (fun hs => by have := shf_I x ((shf_iff x).2 hs); rw [hf] at this; cases this) h
theorem find_some (v : BitVec 64) (j y : Nat) (hj : j < 4) (h : stp v j = some y) : ∃ z, findF v = some z := by
  unfold findF
  match j, hj with
  | 0, _ => rw [h]; exact ⟨_, rfl⟩
  | 1, _ => cases e0 : stp v 0 with
    | some q => exact ⟨_, rfl⟩
    | none => rw [h]; exact ⟨_, rfl⟩
  | 2, _ => cases e0 : stp v 0 with
    | some q => exact ⟨_, rfl⟩
    | none => cases e1 : stp v 1 with
      | some q => exact ⟨_, rfl⟩
      | none => rw [h]; exact ⟨_, rfl⟩
  | 3, _ => cases e0 : stp v 0 with
    | some q => exact ⟨_, rfl⟩
    | none => cases e1 : stp v 1 with
      | some q => exact ⟨_, rfl⟩
      | none => cases e2 : stp v 2 with
        | some q => exact ⟨_, rfl⟩
        | none => exact ⟨_, h⟩
  | n + 4, hn => exact absurd hn (by omega)
/-- The operation of a word is the one whose fields it has. -/
theorem find_iff (v : BitVec 64) (x : Nat) (hx : x ≤ 42) : findF v = some x ↔ Fits v.toNat x := by
  constructor
  · exact find_fits v x
  · intro h
    obtain ⟨j, hj, hs⟩ := fits_stp v x hx h
    obtain ⟨z, hz⟩ := find_some v j x hj hs
    rw [hz, fits_one (findF_le v z hz) hx (find_fits v z hz) h]

/-- A number of so many bits, signed. -/
def sgn (m : Nat) (M : Nat) : Int := if m < M then (m : Int) else (m : Int) - 2 * M
theorem S_sgn (v : BitVec 64) (n M m : Nat) (h1 : 1 ≤ n) (h2 : n ≤ 64) (hM : (2 : Int) ^ n = 2 * (M : Int)) (hm : v.toNat = m) (hl : m < 2 * M) : S (sg v n) = sgn m M := by
  rw [S_sg v n h1 h2, hM, hm]
  unfold sgn
  rw [Int.emod_eq_of_lt (by omega) (by omega)]
  by_cases h : m < M
  · rw [if_pos h, if_pos (by omega)]
  · rw [if_neg h, if_neg (by omega)]
theorem pt0 (x : BitVec 64) (n : Nat) (h : n ≤ 64) : (pt 0#64 0 n x).toNat = x.toNat % 2 ^ n := by
  rw [pt_toNat _ _ _ _ (by omega), show (0#64 : BitVec 64).toNat = 0 from rfl]
  simp
theorem reg_at (v : BitVec 64) (f : Nat) : wrap64 (U (fld v f 5)) = ((v.toNat / 2 ^ f % 32 : Nat) : Int) := by
  rw [U_fld v f 5 (by decide), wrap_in (by omega) (by omega)]
/-- What a word tells, by its operation: the registers and the number. -/
def decS (V x : Nat) : Int × Int × Int × Int :=
  match fm x with
  | .R => (((V / 128 % 32 : Nat) : Int), ((V / 32768 % 32 : Nat) : Int), ((V / 1048576 % 32 : Nat) : Int), 0)
  | .I => (((V / 128 % 32 : Nat) : Int), ((V / 32768 % 32 : Nat) : Int), 0, if shf x then ((V / 1048576 % 64 : Nat) : Int) else sgn (V / 1048576 % 4096) 2048)
  | .S => (0, ((V / 32768 % 32 : Nat) : Int), ((V / 1048576 % 32 : Nat) : Int), sgn (V / 128 % 32 + 32 * (V / 33554432 % 128)) 2048)
  | .B => (0, ((V / 32768 % 32 : Nat) : Int), ((V / 1048576 % 32 : Nat) : Int), sgn (2 * (V / 256 % 16) + 32 * (V / 33554432 % 64) + 2048 * (V / 128 % 2) + 4096 * (V / 2147483648 % 2)) 4096)
  | .U => (((V / 128 % 32 : Nat) : Int), 0, 0, sgn (4096 * (V / 4096 % 1048576)) 2147483648)
  | .J => (((V / 128 % 32 : Nat) : Int), 0, 0, sgn (2 * (V / 2097152 % 1024) + 2048 * (V / 1048576 % 2) + 4096 * (V / 4096 % 256) + 1048576 * (V / 2147483648 % 2)) 1048576)
  | .E => (0, 0, 0, 0)
theorem pt_add (q v : BitVec 64) (f n g : Nat) (h : f + n ≤ 64) (hq : q.toNat < 2 ^ f) : (pt q f n (fld v g n)).toNat = q.toNat + v.toNat / 2 ^ g % 2 ^ n * 2 ^ f := by
  have hlt : q.toNat < 2 ^ (f + n) := Nat.lt_of_lt_of_le hq (Nat.pow_le_pow_right (by decide) (by omega))
  rw [pt_toNat _ _ _ _ h, fld_toNat _ _ _ (by omega), Nat.mod_mod, Nat.mod_eq_of_lt hq, Nat.div_eq_of_lt hlt, Nat.zero_mul, Nat.add_zero]
theorem z0 : (0#64 : BitVec 64).toNat = 0 := rfl
theorem decI (v : BitVec 64) : S (sg (pt 0#64 0 12 (fld v 20 12)) 12) = sgn (v.toNat / 1048576 % 4096) 2048 := by
  have e := pt_add 0#64 v 0 12 20 (by decide) (by decide)
  rw [z0] at e
  have hm : v.toNat / 1048576 % 4096 < 4096 := Nat.mod_lt _ (by decide)
  exact S_sgn _ 12 2048 _ (by decide) (by decide) (by decide) (by rw [e]; show 0 + v.toNat / 1048576 % 4096 * 1 = _; omega) (by omega)
theorem decH (v : BitVec 64) : S (sg (fld (pt 0#64 0 12 (fld v 20 12)) 0 6) 12) = ((v.toNat / 1048576 % 64 : Nat) : Int) := by
  have e := pt_add 0#64 v 0 12 20 (by decide) (by decide)
  rw [z0] at e
  have e2 : (fld (pt 0#64 0 12 (fld v 20 12)) 0 6).toNat = v.toNat / 1048576 % 64 := by
    rw [fld_toNat _ _ _ (by decide), e]
    show (0 + v.toNat / 1048576 % 4096 * 1) / 1 % 64 = _
    generalize v.toNat / 1048576 = y
    omega
  have hm : v.toNat / 1048576 % 64 < 64 := Nat.mod_lt _ (by decide)
  rw [S_sgn _ 12 2048 _ (by decide) (by decide) (by decide) e2 (by omega)]
  unfold sgn
  rw [if_pos (by omega)]
theorem decS' (v : BitVec 64) : S (sg (pt (pt 0#64 0 5 (fld v 7 5)) 5 7 (fld v 25 7)) 12) = sgn (v.toNat / 128 % 32 + 32 * (v.toNat / 33554432 % 128)) 2048 := by
  have e1 := pt_add 0#64 v 0 5 7 (by decide) (by decide)
  rw [z0] at e1
  have h1 : v.toNat / 2 ^ 7 % 2 ^ 5 < 32 := Nat.mod_lt _ (by decide)
  have h2 : v.toNat / 2 ^ 25 % 2 ^ 7 < 128 := Nat.mod_lt _ (by decide)
  have e2 := pt_add (pt 0#64 0 5 (fld v 7 5)) v 5 7 25 (by decide) (by rw [e1]; generalize v.toNat / 2 ^ 7 % 2 ^ 5 = y at *; omega)
  rw [e1] at e2
  refine S_sgn _ 12 2048 _ (by decide) (by decide) (by decide) ?_ ?_
  · rw [e2]; show 0 + v.toNat / 128 % 32 * 1 + v.toNat / 33554432 % 128 * 32 = _; generalize v.toNat / 128 % 32 = y; generalize v.toNat / 33554432 % 128 = z; omega
  · show v.toNat / 128 % 32 + 32 * (v.toNat / 33554432 % 128) < 4096
    have h1' : v.toNat / 128 % 32 < 32 := h1
    have h2' : v.toNat / 33554432 % 128 < 128 := h2
    generalize v.toNat / 128 % 32 = y at *; generalize v.toNat / 33554432 % 128 = z at *; omega
theorem decB (v : BitVec 64) : S (sg (pt (pt (pt (pt 0#64 1 4 (fld v 8 4)) 5 6 (fld v 25 6)) 11 1 (fld v 7 1)) 12 1 (fld v 31 1)) 13) = sgn (2 * (v.toNat / 256 % 16) + 32 * (v.toNat / 33554432 % 64) + 2048 * (v.toNat / 128 % 2) + 4096 * (v.toNat / 2147483648 % 2)) 4096 := by
  have h1 : v.toNat / 2 ^ 8 % 2 ^ 4 < 16 := Nat.mod_lt _ (by decide)
  have h2 : v.toNat / 2 ^ 25 % 2 ^ 6 < 64 := Nat.mod_lt _ (by decide)
  have h3 : v.toNat / 2 ^ 7 % 2 ^ 1 < 2 := Nat.mod_lt _ (by decide)
  have h4 : v.toNat / 2 ^ 31 % 2 ^ 1 < 2 := Nat.mod_lt _ (by decide)
  have e1 := pt_add 0#64 v 1 4 8 (by decide) (by decide)
  rw [z0] at e1
  show _ = sgn (2 * (v.toNat / 2 ^ 8 % 2 ^ 4) + 32 * (v.toNat / 2 ^ 25 % 2 ^ 6) + 2048 * (v.toNat / 2 ^ 7 % 2 ^ 1) + 4096 * (v.toNat / 2 ^ 31 % 2 ^ 1)) 4096
  have e2 := fun h => pt_add (pt 0#64 1 4 (fld v 8 4)) v 5 6 25 (by decide) h
  have e3 := fun h => pt_add (pt (pt 0#64 1 4 (fld v 8 4)) 5 6 (fld v 25 6)) v 11 1 7 (by decide) h
  have e4 := fun h => pt_add (pt (pt (pt 0#64 1 4 (fld v 8 4)) 5 6 (fld v 25 6)) 11 1 (fld v 7 1)) v 12 1 31 (by decide) h
  generalize v.toNat / 2 ^ 8 % 2 ^ 4 = y1 at *
  generalize v.toNat / 2 ^ 25 % 2 ^ 6 = y2 at *
  generalize v.toNat / 2 ^ 7 % 2 ^ 1 = y3 at *
  generalize v.toNat / 2 ^ 31 % 2 ^ 1 = y4 at *
  replace e2 := e2 (by rw [e1]; omega)
  replace e3 := e3 (by rw [e2, e1]; omega)
  replace e4 := e4 (by rw [e3, e2, e1]; omega)
  exact S_sgn _ 13 4096 _ (by decide) (by decide) (by decide) (by rw [e4, e3, e2, e1]; omega) (by omega)
theorem decU (v : BitVec 64) : S (sg (pt 0#64 12 20 (fld v 12 20)) 32) = sgn (4096 * (v.toNat / 4096 % 1048576)) 2147483648 := by
  have e := pt_add 0#64 v 12 20 12 (by decide) (by decide)
  rw [z0] at e
  have hm : v.toNat / 4096 % 1048576 < 1048576 := Nat.mod_lt _ (by decide)
  refine S_sgn _ 32 2147483648 _ (by decide) (by decide) (by decide) ?_ (by omega)
  rw [e]; show 0 + v.toNat / 4096 % 1048576 * 4096 = _; generalize v.toNat / 4096 % 1048576 = y; omega
theorem decJ (v : BitVec 64) : S (sg (pt (pt (pt (pt 0#64 1 10 (fld v 21 10)) 11 1 (fld v 20 1)) 12 8 (fld v 12 8)) 20 1 (fld v 31 1)) 21) = sgn (2 * (v.toNat / 2097152 % 1024) + 2048 * (v.toNat / 1048576 % 2) + 4096 * (v.toNat / 4096 % 256) + 1048576 * (v.toNat / 2147483648 % 2)) 1048576 := by
  have h1 : v.toNat / 2 ^ 21 % 2 ^ 10 < 1024 := Nat.mod_lt _ (by decide)
  have h2 : v.toNat / 2 ^ 20 % 2 ^ 1 < 2 := Nat.mod_lt _ (by decide)
  have h3 : v.toNat / 2 ^ 12 % 2 ^ 8 < 256 := Nat.mod_lt _ (by decide)
  have h4 : v.toNat / 2 ^ 31 % 2 ^ 1 < 2 := Nat.mod_lt _ (by decide)
  have e1 := pt_add 0#64 v 1 10 21 (by decide) (by decide)
  rw [z0] at e1
  show _ = sgn (2 * (v.toNat / 2 ^ 21 % 2 ^ 10) + 2048 * (v.toNat / 2 ^ 20 % 2 ^ 1) + 4096 * (v.toNat / 2 ^ 12 % 2 ^ 8) + 1048576 * (v.toNat / 2 ^ 31 % 2 ^ 1)) 1048576
  have e2 := fun h => pt_add (pt 0#64 1 10 (fld v 21 10)) v 11 1 20 (by decide) h
  have e3 := fun h => pt_add (pt (pt 0#64 1 10 (fld v 21 10)) 11 1 (fld v 20 1)) v 12 8 12 (by decide) h
  have e4 := fun h => pt_add (pt (pt (pt 0#64 1 10 (fld v 21 10)) 11 1 (fld v 20 1)) 12 8 (fld v 12 8)) v 20 1 31 (by decide) h
  generalize v.toNat / 2 ^ 21 % 2 ^ 10 = y1 at *
  generalize v.toNat / 2 ^ 20 % 2 ^ 1 = y2 at *
  generalize v.toNat / 2 ^ 12 % 2 ^ 8 = y3 at *
  generalize v.toNat / 2 ^ 31 % 2 ^ 1 = y4 at *
  replace e2 := e2 (by rw [e1]; omega)
  replace e3 := e3 (by rw [e2, e1]; omega)
  replace e4 := e4 (by rw [e3, e2, e1]; omega)
  exact S_sgn _ 21 1048576 _ (by decide) (by decide) (by decide) (by rw [e4, e3, e2, e1]; omega) (by omega)
theorem dec_is (v : BitVec 64) (x : Nat) (hf : findF v = some x) :
    decF v = if fm x = .E ∧ v.toNat ≠ 1048691 then none else some ((x : Int), decS v.toNat x) := by
  have r7 := reg_at v 7
  have r15 := reg_at v 15
  have r20 := reg_at v 20
  unfold decF decS
  rw [hf]
  dsimp only
  cases hF : fm x <;> dsimp only
  · rw [r7, r15, r20, if_neg (fun h => by cases h.1)]
  · rw [r7, r15, decI, decH]
    rw [if_neg (show ¬ (Fm.I = Fm.E ∧ v.toNat ≠ 1048691) from fun h => by cases h.1)]
    by_cases hs : 22 ≤ (x : Int) ∧ (x : Int) ≤ 24
    · rw [if_pos hs, show shf x = true from (shf_iff x).2 (by omega), if_pos rfl]
    · rw [if_neg hs, show shf x = false from Bool.eq_false_iff.2 (fun e => hs (by have := (shf_iff x).1 e; omega)), if_neg (by decide)]
  · rw [r15, r20, decS', if_neg (fun h => by cases h.1)]
  · rw [r15, r20, decB, if_neg (fun h => by cases h.1)]
  · rw [r7, decU, if_neg (fun h => by cases h.1)]
  · rw [r7, decJ, if_neg (fun h => by cases h.1)]
  · by_cases he : v.toNat = 1048691
    · have hu : U v = 1048691 := by unfold U; omega
      rw [if_pos hu, if_neg (fun h => h.2 he)]
    · have hu : ¬ U v = 1048691 := by unfold U; omega
      rw [if_neg hu, if_pos ⟨rfl, he⟩]
theorem R_digits (V l d k a b t : Nat) (hl : l < 128) (hd : d < 32) (hk : k < 8) (ha : a < 32) (hb : b < 32) (ht : t < 128) (h : V = l + 128 * d + 4096 * k + 32768 * a + 1048576 * b + 33554432 * t) : V % 128 = l ∧ V / 128 % 32 = d ∧ V / 4096 % 8 = k ∧ V / 32768 % 32 = a ∧ V / 1048576 % 32 = b ∧ V / 33554432 % 128 = t := by
  refine ⟨?_, ?_, ?_, ?_, ?_, ?_⟩ <;> omega
theorem R_sum (V : Nat) (hV : V < 4294967296) : V = V % 128 + 128 * (V / 128 % 32) + 4096 * (V / 4096 % 8) + 32768 * (V / 32768 % 32) + 1048576 * (V / 1048576 % 32) + 33554432 * (V / 33554432 % 128) := by
  have e0 : V = V % 128 + 128 * (V / 128) := by omega
  have e1 : V / 128 = V / 128 % 32 + 32 * (V / 4096) := by omega
  have e2 : V / 4096 = V / 4096 % 8 + 8 * (V / 32768) := by omega
  have e3 : V / 32768 = V / 32768 % 32 + 32 * (V / 1048576) := by omega
  have e4 : V / 1048576 = V / 1048576 % 32 + 32 * (V / 33554432) := by omega
  have e5 : V / 33554432 = V / 33554432 % 128 + 128 * (V / 4294967296) := by omega
  have z : V / 4294967296 = 0 := by omega
  generalize V % 128 = y0 at *
  generalize V / 128 % 32 = y1 at *
  generalize V / 4096 % 8 = y2 at *
  generalize V / 32768 % 32 = y3 at *
  generalize V / 1048576 % 32 = y4 at *
  generalize V / 33554432 % 128 = y5 at *
  generalize V / 128 = x0 at *
  generalize V / 4096 = x1 at *
  generalize V / 32768 = x2 at *
  generalize V / 1048576 = x3 at *
  generalize V / 33554432 = x4 at *
  generalize V / 4294967296 = x5 at *
  omega
theorem I_digits (V l d k a n : Nat) (hl : l < 128) (hd : d < 32) (hk : k < 8) (ha : a < 32) (hn : n < 4096) (h : V = l + 128 * d + 4096 * k + 32768 * a + 1048576 * n) : V % 128 = l ∧ V / 128 % 32 = d ∧ V / 4096 % 8 = k ∧ V / 32768 % 32 = a ∧ V / 1048576 % 4096 = n := by
  refine ⟨?_, ?_, ?_, ?_, ?_⟩ <;> omega
theorem I_sum (V : Nat) (hV : V < 4294967296) : V = V % 128 + 128 * (V / 128 % 32) + 4096 * (V / 4096 % 8) + 32768 * (V / 32768 % 32) + 1048576 * (V / 1048576 % 4096) := by
  have e0 : V = V % 128 + 128 * (V / 128) := by omega
  have e1 : V / 128 = V / 128 % 32 + 32 * (V / 4096) := by omega
  have e2 : V / 4096 = V / 4096 % 8 + 8 * (V / 32768) := by omega
  have e3 : V / 32768 = V / 32768 % 32 + 32 * (V / 1048576) := by omega
  have e4 : V / 1048576 = V / 1048576 % 4096 + 4096 * (V / 4294967296) := by omega
  have z : V / 4294967296 = 0 := by omega
  generalize V % 128 = y0 at *
  generalize V / 128 % 32 = y1 at *
  generalize V / 4096 % 8 = y2 at *
  generalize V / 32768 % 32 = y3 at *
  generalize V / 1048576 % 4096 = y4 at *
  generalize V / 128 = x0 at *
  generalize V / 4096 = x1 at *
  generalize V / 32768 = x2 at *
  generalize V / 1048576 = x3 at *
  generalize V / 4294967296 = x4 at *
  omega
theorem H_digits (V l d k a n t : Nat) (hl : l < 128) (hd : d < 32) (hk : k < 8) (ha : a < 32) (hn : n < 64) (ht : t < 64) (h : V = l + 128 * d + 4096 * k + 32768 * a + 1048576 * n + 67108864 * t) : V % 128 = l ∧ V / 128 % 32 = d ∧ V / 4096 % 8 = k ∧ V / 32768 % 32 = a ∧ V / 1048576 % 64 = n ∧ V / 67108864 % 64 = t := by
  refine ⟨?_, ?_, ?_, ?_, ?_, ?_⟩ <;> omega
theorem H_sum (V : Nat) (hV : V < 4294967296) : V = V % 128 + 128 * (V / 128 % 32) + 4096 * (V / 4096 % 8) + 32768 * (V / 32768 % 32) + 1048576 * (V / 1048576 % 64) + 67108864 * (V / 67108864 % 64) := by
  have e0 : V = V % 128 + 128 * (V / 128) := by omega
  have e1 : V / 128 = V / 128 % 32 + 32 * (V / 4096) := by omega
  have e2 : V / 4096 = V / 4096 % 8 + 8 * (V / 32768) := by omega
  have e3 : V / 32768 = V / 32768 % 32 + 32 * (V / 1048576) := by omega
  have e4 : V / 1048576 = V / 1048576 % 64 + 64 * (V / 67108864) := by omega
  have e5 : V / 67108864 = V / 67108864 % 64 + 64 * (V / 4294967296) := by omega
  have z : V / 4294967296 = 0 := by omega
  generalize V % 128 = y0 at *
  generalize V / 128 % 32 = y1 at *
  generalize V / 4096 % 8 = y2 at *
  generalize V / 32768 % 32 = y3 at *
  generalize V / 1048576 % 64 = y4 at *
  generalize V / 67108864 % 64 = y5 at *
  generalize V / 128 = x0 at *
  generalize V / 4096 = x1 at *
  generalize V / 32768 = x2 at *
  generalize V / 1048576 = x3 at *
  generalize V / 67108864 = x4 at *
  generalize V / 4294967296 = x5 at *
  omega
theorem B_digits (V l q u k a b v s : Nat) (hl : l < 128) (hq : q < 2) (hu : u < 16) (hk : k < 8) (ha : a < 32) (hb : b < 32) (hv : v < 64) (hs : s < 2) (h : V = l + 128 * q + 256 * u + 4096 * k + 32768 * a + 1048576 * b + 33554432 * v + 2147483648 * s) : V % 128 = l ∧ V / 128 % 2 = q ∧ V / 256 % 16 = u ∧ V / 4096 % 8 = k ∧ V / 32768 % 32 = a ∧ V / 1048576 % 32 = b ∧ V / 33554432 % 64 = v ∧ V / 2147483648 % 2 = s := by
  refine ⟨?_, ?_, ?_, ?_, ?_, ?_, ?_, ?_⟩ <;> omega
theorem B_sum (V : Nat) (hV : V < 4294967296) : V = V % 128 + 128 * (V / 128 % 2) + 256 * (V / 256 % 16) + 4096 * (V / 4096 % 8) + 32768 * (V / 32768 % 32) + 1048576 * (V / 1048576 % 32) + 33554432 * (V / 33554432 % 64) + 2147483648 * (V / 2147483648 % 2) := by
  have e0 : V = V % 128 + 128 * (V / 128) := by omega
  have e1 : V / 128 = V / 128 % 2 + 2 * (V / 256) := by omega
  have e2 : V / 256 = V / 256 % 16 + 16 * (V / 4096) := by omega
  have e3 : V / 4096 = V / 4096 % 8 + 8 * (V / 32768) := by omega
  have e4 : V / 32768 = V / 32768 % 32 + 32 * (V / 1048576) := by omega
  have e5 : V / 1048576 = V / 1048576 % 32 + 32 * (V / 33554432) := by omega
  have e6 : V / 33554432 = V / 33554432 % 64 + 64 * (V / 2147483648) := by omega
  have e7 : V / 2147483648 = V / 2147483648 % 2 + 2 * (V / 4294967296) := by omega
  have z : V / 4294967296 = 0 := by omega
  generalize V % 128 = y0 at *
  generalize V / 128 % 2 = y1 at *
  generalize V / 256 % 16 = y2 at *
  generalize V / 4096 % 8 = y3 at *
  generalize V / 32768 % 32 = y4 at *
  generalize V / 1048576 % 32 = y5 at *
  generalize V / 33554432 % 64 = y6 at *
  generalize V / 2147483648 % 2 = y7 at *
  generalize V / 128 = x0 at *
  generalize V / 256 = x1 at *
  generalize V / 4096 = x2 at *
  generalize V / 32768 = x3 at *
  generalize V / 1048576 = x4 at *
  generalize V / 33554432 = x5 at *
  generalize V / 2147483648 = x6 at *
  generalize V / 4294967296 = x7 at *
  omega
theorem U_digits (V l d n : Nat) (hl : l < 128) (hd : d < 32) (hn : n < 1048576) (h : V = l + 128 * d + 4096 * n) : V % 128 = l ∧ V / 128 % 32 = d ∧ V / 4096 % 1048576 = n := by
  refine ⟨?_, ?_, ?_⟩ <;> omega
theorem U_sum (V : Nat) (hV : V < 4294967296) : V = V % 128 + 128 * (V / 128 % 32) + 4096 * (V / 4096 % 1048576) := by
  have e0 : V = V % 128 + 128 * (V / 128) := by omega
  have e1 : V / 128 = V / 128 % 32 + 32 * (V / 4096) := by omega
  have e2 : V / 4096 = V / 4096 % 1048576 + 1048576 * (V / 4294967296) := by omega
  have z : V / 4294967296 = 0 := by omega
  generalize V % 128 = y0 at *
  generalize V / 128 % 32 = y1 at *
  generalize V / 4096 % 1048576 = y2 at *
  generalize V / 128 = x0 at *
  generalize V / 4096 = x1 at *
  generalize V / 4294967296 = x2 at *
  omega
theorem J_digits (V l d c q u s : Nat) (hl : l < 128) (hd : d < 32) (hc : c < 256) (hq : q < 2) (hu : u < 1024) (hs : s < 2) (h : V = l + 128 * d + 4096 * c + 1048576 * q + 2097152 * u + 2147483648 * s) : V % 128 = l ∧ V / 128 % 32 = d ∧ V / 4096 % 256 = c ∧ V / 1048576 % 2 = q ∧ V / 2097152 % 1024 = u ∧ V / 2147483648 % 2 = s := by
  refine ⟨?_, ?_, ?_, ?_, ?_, ?_⟩ <;> omega
theorem J_sum (V : Nat) (hV : V < 4294967296) : V = V % 128 + 128 * (V / 128 % 32) + 4096 * (V / 4096 % 256) + 1048576 * (V / 1048576 % 2) + 2097152 * (V / 2097152 % 1024) + 2147483648 * (V / 2147483648 % 2) := by
  have e0 : V = V % 128 + 128 * (V / 128) := by omega
  have e1 : V / 128 = V / 128 % 32 + 32 * (V / 4096) := by omega
  have e2 : V / 4096 = V / 4096 % 256 + 256 * (V / 1048576) := by omega
  have e3 : V / 1048576 = V / 1048576 % 2 + 2 * (V / 2097152) := by omega
  have e4 : V / 2097152 = V / 2097152 % 1024 + 1024 * (V / 2147483648) := by omega
  have e5 : V / 2147483648 = V / 2147483648 % 2 + 2 * (V / 4294967296) := by omega
  have z : V / 4294967296 = 0 := by omega
  generalize V % 128 = y0 at *
  generalize V / 128 % 32 = y1 at *
  generalize V / 4096 % 256 = y2 at *
  generalize V / 1048576 % 2 = y3 at *
  generalize V / 2097152 % 1024 = y4 at *
  generalize V / 2147483648 % 2 = y5 at *
  generalize V / 128 = x0 at *
  generalize V / 4096 = x1 at *
  generalize V / 1048576 = x2 at *
  generalize V / 2097152 = x3 at *
  generalize V / 2147483648 = x4 at *
  generalize V / 4294967296 = x5 at *
  omega
theorem sgn_2048_1_4096 (m : Nat) (h : m < 4096) : sgn m 2048 % 4096 = ((m % 4096 : Nat) : Int) := by unfold sgn; split <;> omega
theorem sgn_2048_1_32 (m : Nat) (h : m < 4096) : sgn m 2048 % 32 = ((m % 32 : Nat) : Int) := by unfold sgn; split <;> omega
theorem sgn_2048_32_128 (m : Nat) (h : m < 4096) : sgn m 2048 / 32 % 128 = ((m / 32 % 128 : Nat) : Int) := by unfold sgn; split <;> omega
theorem sgn_4096_2048_2 (m : Nat) (h : m < 8192) : sgn m 4096 / 2048 % 2 = ((m / 2048 % 2 : Nat) : Int) := by unfold sgn; split <;> omega
theorem sgn_4096_2_16 (m : Nat) (h : m < 8192) : sgn m 4096 / 2 % 16 = ((m / 2 % 16 : Nat) : Int) := by unfold sgn; split <;> omega
theorem sgn_4096_32_64 (m : Nat) (h : m < 8192) : sgn m 4096 / 32 % 64 = ((m / 32 % 64 : Nat) : Int) := by unfold sgn; split <;> omega
theorem sgn_4096_4096_2 (m : Nat) (h : m < 8192) : sgn m 4096 / 4096 % 2 = ((m / 4096 % 2 : Nat) : Int) := by unfold sgn; split <;> omega
theorem sgn_2147483648_4096_1048576 (m : Nat) (h : m < 4294967296) : sgn m 2147483648 / 4096 % 1048576 = ((m / 4096 % 1048576 : Nat) : Int) := by unfold sgn; split <;> omega
theorem sgn_1048576_4096_256 (m : Nat) (h : m < 2097152) : sgn m 1048576 / 4096 % 256 = ((m / 4096 % 256 : Nat) : Int) := by unfold sgn; split <;> omega
theorem sgn_1048576_2048_2 (m : Nat) (h : m < 2097152) : sgn m 1048576 / 2048 % 2 = ((m / 2048 % 2 : Nat) : Int) := by unfold sgn; split <;> omega
theorem sgn_1048576_2_1024 (m : Nat) (h : m < 2097152) : sgn m 1048576 / 2 % 1024 = ((m / 2 % 1024 : Nat) : Int) := by unfold sgn; split <;> omega
theorem sgn_1048576_1048576_2 (m : Nat) (h : m < 2097152) : sgn m 1048576 / 1048576 % 2 = ((m / 1048576 % 2 : Nat) : Int) := by unfold sgn; split <;> omega
theorem sgn_range (m M : Nat) (h : m < 2 * M) : -(M : Int) ≤ sgn m M ∧ sgn m M < M := by unfold sgn; split <;> omega
theorem sgn_back (n : Int) (M : Nat) (m : Nat) (h0 : -(M : Int) ≤ n) (h1 : n < M) (hm : (m : Int) = n % (2 * M)) : sgn m M = n := by
  have hr0 := Int.emod_nonneg n (show (2 * (M : Int)) ≠ 0 by omega)
  have hr1 := Int.emod_lt_of_pos n (show 0 < 2 * (M : Int) by omega)
  unfold sgn
  by_cases hp : 0 ≤ n
  · rw [Int.emod_eq_of_lt hp (by omega)] at hm
    rw [if_pos (by omega)]; exact hm
  · have : n % (2 * M) = n + 2 * M := by
      rw [← Int.add_emod_right, Int.emod_eq_of_lt (by omega) (by omega)]
    rw [this] at hm
    rw [if_neg (by omega)]; omega
/-- What a word tells is an instruction, and the word is its. -/
theorem decS_ok (V x : Nat) (hV : V < 4294967296) (hx : x ≤ 42) (h : Fits V x) (hE : fm x = .E → V = 1048691) :
    MayS (x : Int) (decS V x).1 (decS V x).2.1 (decS V x).2.2.1 (decS V x).2.2.2 ∧ encS x (decS V x).1 (decS V x).2.1 (decS V x).2.2.1 (decS V x).2.2.2 = (V : Int) := by
  obtain ⟨h0, h1⟩ := h
  have r7 : V / 128 % 32 < 32 := Nat.mod_lt _ (by decide)
  have r15 : V / 32768 % 32 < 32 := Nat.mod_lt _ (by decide)
  have r20 : V / 1048576 % 32 < 32 := Nat.mod_lt _ (by decide)
  have reg : ∀ (m : Nat) (q : Bool), m < 32 → q = true → regS (m : Int) q := fun m q hm hq => ⟨by omega, by omega, fun e => by rw [hq] at e; cases e⟩
  have zer : ∀ q : Bool, regS 0 q := fun q => ⟨by decide, by decide, fun _ => rfl⟩
  have key : regS (decS V x).1 (fm x).d ∧ regS (decS V x).2.1 (fm x).a ∧ regS (decS V x).2.2.1 (fm x).b ∧ immS (fm x) (shf x) (decS V x).2.2.2 ∧ encS x (decS V x).1 (decS V x).2.1 (decS V x).2.2.1 (decS V x).2.2.2 = (V : Int) := by
    unfold decS encS
    cases hf : fm x <;> rw [hf] at h1 <;> dsimp only at h1 ⊢ <;> simp only [Fm.d, Fm.a, Fm.b, immS]
    · refine ⟨reg _ _ r7 rfl, reg _ _ r15 rfl, reg _ _ r20 rfl, trivial, ?_⟩
      have e := R_sum V hV
      rw [h0, h1.1, h1.2] at e
      generalize V / 128 % 32 = d at *
      generalize V / 32768 % 32 = a at *
      generalize V / 1048576 % 32 = b at *
      omega
    · cases hs : shf x
      · simp only [Bool.false_eq_true, if_false]
        have hm : V / 1048576 % 4096 < 4096 := Nat.mod_lt _ (by decide)
        have e := I_sum V hV
        rw [h0, h1.1] at e
        generalize V / 128 % 32 = d at *
        generalize V / 32768 % 32 = a at *
        generalize V / 1048576 % 4096 = m at *
        refine ⟨reg _ _ r7 rfl, reg _ _ r15 rfl, zer _, by have := sgn_range m 2048 (by omega); omega, ?_⟩
        rw [sgn_2048_1_4096 m hm, Nat.mod_eq_of_lt hm]
        omega
      · simp only [if_true]
        have hm : V / 1048576 % 64 < 64 := Nat.mod_lt _ (by decide)
        have e := H_sum V hV
        rw [h0, h1.1, h1.2 hs] at e
        generalize V / 128 % 32 = d at *
        generalize V / 32768 % 32 = a at *
        generalize V / 1048576 % 64 = m at *
        exact ⟨reg _ _ r7 rfl, reg _ _ r15 rfl, zer _, by omega, by omega⟩
    · have e := R_sum V hV
      rw [h0, h1] at e
      have ht : V / 33554432 % 128 < 128 := Nat.mod_lt _ (by decide)
      generalize V / 128 % 32 = d at *
      generalize V / 32768 % 32 = a at *
      generalize V / 1048576 % 32 = b at *
      generalize V / 33554432 % 128 = t at *
      refine ⟨zer _, reg _ _ r15 rfl, reg _ _ r20 rfl, by have := sgn_range (d + 32 * t) 2048 (by omega); omega, ?_⟩
      rw [sgn_2048_1_32 _ (by omega), sgn_2048_32_128 _ (by omega), show (d + 32 * t) % 32 = d by omega, show (d + 32 * t) / 32 % 128 = t by omega]
      omega
    · have e := B_sum V hV
      rw [h0, h1] at e
      have hq : V / 128 % 2 < 2 := Nat.mod_lt _ (by decide)
      have hu : V / 256 % 16 < 16 := Nat.mod_lt _ (by decide)
      have hv : V / 33554432 % 64 < 64 := Nat.mod_lt _ (by decide)
      have hs : V / 2147483648 % 2 < 2 := Nat.mod_lt _ (by decide)
      generalize V / 32768 % 32 = a at *
      generalize V / 1048576 % 32 = b at *
      generalize V / 128 % 2 = q at *
      generalize V / 256 % 16 = u at *
      generalize V / 33554432 % 64 = v at *
      generalize V / 2147483648 % 2 = s at *
      clear h0 h1 hV r7
      have hM : 2 * u + 32 * v + 2048 * q + 4096 * s < 8192 := by omega
      refine ⟨zer _, reg _ _ r15 rfl, reg _ _ r20 rfl, ?_, ?_⟩
      · have := sgn_range (2 * u + 32 * v + 2048 * q + 4096 * s) 4096 (by omega)
        refine ⟨by omega, by omega, ?_⟩
        unfold sgn; split <;> omega
      · rw [sgn_4096_2048_2 _ hM, sgn_4096_2_16 _ hM, sgn_4096_32_64 _ hM, sgn_4096_4096_2 _ hM]
        rw [show (2 * u + 32 * v + 2048 * q + 4096 * s) / 2048 % 2 = q by omega, show (2 * u + 32 * v + 2048 * q + 4096 * s) / 2 % 16 = u by omega, show (2 * u + 32 * v + 2048 * q + 4096 * s) / 32 % 64 = v by omega, show (2 * u + 32 * v + 2048 * q + 4096 * s) / 4096 % 2 = s by omega]
        omega
    · have e := U_sum V hV
      rw [h0] at e
      have hn : V / 4096 % 1048576 < 1048576 := Nat.mod_lt _ (by decide)
      generalize V / 128 % 32 = d at *
      generalize V / 4096 % 1048576 = m at *
      refine ⟨reg _ _ r7 rfl, zer _, zer _, ?_, ?_⟩
      · have := sgn_range (4096 * m) 2147483648 (by omega)
        refine ⟨by omega, by omega, ?_⟩
        unfold sgn; split <;> omega
      · rw [sgn_2147483648_4096_1048576 _ (by omega), show 4096 * m / 4096 % 1048576 = m by omega]
        omega
    · have e := J_sum V hV
      rw [h0] at e
      have hc : V / 4096 % 256 < 256 := Nat.mod_lt _ (by decide)
      have hq : V / 1048576 % 2 < 2 := Nat.mod_lt _ (by decide)
      have hu : V / 2097152 % 1024 < 1024 := Nat.mod_lt _ (by decide)
      have hs : V / 2147483648 % 2 < 2 := Nat.mod_lt _ (by decide)
      generalize V / 128 % 32 = d at *
      generalize V / 4096 % 256 = c at *
      generalize V / 1048576 % 2 = q at *
      generalize V / 2097152 % 1024 = u at *
      generalize V / 2147483648 % 2 = s at *
      clear h0 h1 hV r15 r20
      have hM : 2 * u + 2048 * q + 4096 * c + 1048576 * s < 2097152 := by omega
      refine ⟨reg _ _ r7 rfl, zer _, zer _, ?_, ?_⟩
      · have := sgn_range (2 * u + 2048 * q + 4096 * c + 1048576 * s) 1048576 (by omega)
        refine ⟨by omega, by omega, ?_⟩
        unfold sgn; split <;> omega
      · rw [sgn_1048576_4096_256 _ hM, sgn_1048576_2048_2 _ hM, sgn_1048576_2_1024 _ hM, sgn_1048576_1048576_2 _ hM]
        rw [show (2 * u + 2048 * q + 4096 * c + 1048576 * s) / 2048 % 2 = q by omega, show (2 * u + 2048 * q + 4096 * c + 1048576 * s) / 2 % 1024 = u by omega, show (2 * u + 2048 * q + 4096 * c + 1048576 * s) / 4096 % 256 = c by omega, show (2 * u + 2048 * q + 4096 * c + 1048576 * s) / 1048576 % 2 = s by omega]
        omega
    · exact ⟨zer _, zer _, zer _, trivial, by have := hE hf; omega⟩
  exact ⟨⟨by omega, by omega, by simpa using key.1, by simpa using key.2.1, by simpa using key.2.2.1, by simpa using key.2.2.2.1⟩, key.2.2.2.2⟩
/-- An instruction's word fits its operation, and tells it. -/
theorem encS_ok (V x : Nat) (d a b n : Int) (hV : V < 4294967296) (m : MayS (x : Int) d a b n) (e : encS x d a b n = (V : Int)) :
    Fits V x ∧ decS V x = (d, a, b, n) ∧ (fm x = .E → V = 1048691) := by
  obtain ⟨_, hx, ⟨d0, d1, d2⟩, ⟨a0, a1, a2⟩, ⟨b0, b1, b2⟩, hi⟩ := m
  simp only [Int.toNat_natCast] at d2 a2 b2 hi
  have hl := lo_lt x
  have hk := kd_lt x
  have ht := tp_lt x
  obtain ⟨d, rfl⟩ := Int.eq_ofNat_of_zero_le d0
  obtain ⟨a, rfl⟩ := Int.eq_ofNat_of_zero_le a0
  obtain ⟨b, rfl⟩ := Int.eq_ofNat_of_zero_le b0
  have d3 : d < 32 := by omega
  have a3 : a < 32 := by omega
  have b3 : b < 32 := by omega
  clear d0 a0 b0 d1 a1 b1
  unfold Fits decS
  unfold encS at e
  cases hf : fm x <;> rw [hf] at e d2 a2 b2 hi <;> simp only [Fm.d, Fm.a, Fm.b, immS] at e d2 a2 b2 hi ⊢
  · obtain ⟨q0, q1, q2, q3, q4, q5⟩ := R_digits V (lo x) d (kd x) a b (tp x) hl d3 hk a3 b3 (by omega) (by omega)
    rw [q0, q1, q2, q3, q4, q5]
    refine ⟨by simp, by rw [hi], fun h => by cases h⟩
  · have b4 : b = 0 := by have := b2 trivial; omega
    subst b4
    cases hs : shf x
    · rw [hs] at hi e
      simp only [Bool.false_eq_true, if_false] at hi e ⊢
      obtain ⟨m, hm⟩ := Int.eq_ofNat_of_zero_le (Int.emod_nonneg n (show (4096 : Int) ≠ 0 by decide))
      have hm2 : m < 4096 := by omega
      rw [hm] at e
      obtain ⟨q0, q1, q2, q3, q4⟩ := I_digits V (lo x) d (kd x) a m hl d3 hk a3 hm2 (by omega)
      rw [q0, q1, q2, q3, q4, sgn_back n 2048 m (by omega) (by omega) (by omega)]
      refine ⟨by simp, rfl, fun h => by cases h⟩
    · rw [hs] at hi e
      simp only [if_true] at hi e ⊢
      obtain ⟨m, rfl⟩ := Int.eq_ofNat_of_zero_le hi.1
      obtain ⟨q0, q1, q2, q3, q4, q5⟩ := H_digits V (lo x) d (kd x) a m (tp x) hl d3 hk a3 (by omega) ht (by omega)
      rw [q0, q1, q2, q3, q4, q5]
      refine ⟨by simp, rfl, fun h => by cases h⟩
  · have d4 : d = 0 := by have := d2 trivial; omega
    subst d4
    obtain ⟨p, hp⟩ := Int.eq_ofNat_of_zero_le (Int.emod_nonneg n (show (32 : Int) ≠ 0 by decide))
    obtain ⟨t, hq⟩ := Int.eq_ofNat_of_zero_le (Int.emod_nonneg (n / 32) (show (128 : Int) ≠ 0 by decide))
    have hp2 : p < 32 := by omega
    have hq2 : t < 128 := by omega
    have hback := sgn_back n 2048 (p + 32 * t) (by omega) (by omega) (by omega)
    rw [hp, hq] at e
    clear hp hq hi
    obtain ⟨q0, q1, q2, q3, q4, q5⟩ := R_digits V (lo x) p (kd x) a b t hl hp2 hk a3 b3 hq2 (by omega)
    rw [q0, q1, q2, q3, q4, q5, hback]
    refine ⟨by simp, rfl, fun h => by cases h⟩
  · have d4 : d = 0 := by have := d2 trivial; omega
    subst d4
    obtain ⟨q, hq⟩ := Int.eq_ofNat_of_zero_le (Int.emod_nonneg (n / 2048) (show (2 : Int) ≠ 0 by decide))
    obtain ⟨u, hu⟩ := Int.eq_ofNat_of_zero_le (Int.emod_nonneg (n / 2) (show (16 : Int) ≠ 0 by decide))
    obtain ⟨v, hv⟩ := Int.eq_ofNat_of_zero_le (Int.emod_nonneg (n / 32) (show (64 : Int) ≠ 0 by decide))
    obtain ⟨s, hs⟩ := Int.eq_ofNat_of_zero_le (Int.emod_nonneg (n / 4096) (show (2 : Int) ≠ 0 by decide))
    have hq2 : q < 2 := by clear hu hv hs e; omega
    have hu2 : u < 16 := by clear hq hv hs e; omega
    have hv2 : v < 64 := by clear hq hu hs e; omega
    have hs2 : s < 2 := by clear hq hu hv e; omega
    have hback := sgn_back n 4096 (2 * u + 32 * v + 2048 * q + 4096 * s) (by omega) (by omega) (by
      rw [hq, hu, hv, hs] at e
      clear e hl hk ht hV hx a3 b3 d3 hf
      have x1 : n = 2 * (n / 2) := by omega
      have x2 : n / 2 = n / 2 % 16 + 16 * (n / 32) := by omega
      have x3 : n / 32 = n / 32 % 64 + 64 * (n / 2048) := by omega
      have x4 : n / 2048 = n / 2048 % 2 + 2 * (n / 4096) := by omega
      have x5 : n / 4096 = n / 4096 % 2 + 2 * (n / 8192) := by omega
      have x6 : n = n % 8192 + 8192 * (n / 8192) := by omega
      rw [hu] at x2; rw [hv] at x3; rw [hq] at x4; rw [hs] at x5
      clear hq hu hv hs
      generalize n / 2 = y1 at *
      generalize n / 32 = y2 at *
      generalize n / 2048 = y3 at *
      generalize n / 4096 = y4 at *
      generalize n / 8192 = y5 at *
      show _ = n % 8192
      generalize n % 8192 = y6 at *
      omega)
    rw [hq, hu, hv, hs] at e
    clear hq hu hv hs hi
    obtain ⟨q0, q1, q2, q3, q4, q5, q6, q7⟩ := B_digits V (lo x) q u (kd x) a b v s hl hq2 hu2 hk a3 b3 hv2 hs2 (by omega)
    rw [q0, q1, q2, q3, q4, q5, q6, q7, hback]
    refine ⟨by simp, rfl, fun h => by cases h⟩
  · have a4 : a = 0 := by have := a2 trivial; omega
    have b4 : b = 0 := by have := b2 trivial; omega
    subst a4 b4
    obtain ⟨m, hm⟩ := Int.eq_ofNat_of_zero_le (Int.emod_nonneg (n / 4096) (show (1048576 : Int) ≠ 0 by decide))
    have hm2 : m < 1048576 := by clear e; omega
    have hback := sgn_back n 2147483648 (4096 * m) (by omega) (by omega) (by clear e; omega)
    rw [hm] at e
    clear hm hi
    obtain ⟨q0, q1, q2⟩ := U_digits V (lo x) d m hl d3 hm2 (by omega)
    rw [q0, q1, q2, hback]
    refine ⟨by simp, rfl, fun h => by cases h⟩
  · have a4 : a = 0 := by have := a2 trivial; omega
    have b4 : b = 0 := by have := b2 trivial; omega
    subst a4 b4
    obtain ⟨c, hc⟩ := Int.eq_ofNat_of_zero_le (Int.emod_nonneg (n / 4096) (show (256 : Int) ≠ 0 by decide))
    obtain ⟨q, hq⟩ := Int.eq_ofNat_of_zero_le (Int.emod_nonneg (n / 2048) (show (2 : Int) ≠ 0 by decide))
    obtain ⟨u, hu⟩ := Int.eq_ofNat_of_zero_le (Int.emod_nonneg (n / 2) (show (1024 : Int) ≠ 0 by decide))
    obtain ⟨s, hs⟩ := Int.eq_ofNat_of_zero_le (Int.emod_nonneg (n / 1048576) (show (2 : Int) ≠ 0 by decide))
    have hc2 : c < 256 := by clear hq hu hs e; omega
    have hq2 : q < 2 := by clear hc hu hs e; omega
    have hu2 : u < 1024 := by clear hc hq hs e; omega
    have hs2 : s < 2 := by clear hc hq hu e; omega
    have hback := sgn_back n 1048576 (2 * u + 2048 * q + 4096 * c + 1048576 * s) (by omega) (by omega) (by
      rw [hc, hq, hu, hs] at e
      clear e hl hk ht hV hx d3 hf
      have x1 : n = 2 * (n / 2) := by omega
      have x2 : n / 2 = n / 2 % 1024 + 1024 * (n / 2048) := by omega
      have x3 : n / 2048 = n / 2048 % 2 + 2 * (n / 4096) := by omega
      have x4 : n / 4096 = n / 4096 % 256 + 256 * (n / 1048576) := by omega
      have x5 : n / 1048576 = n / 1048576 % 2 + 2 * (n / 2097152) := by omega
      have x6 : n = n % 2097152 + 2097152 * (n / 2097152) := by omega
      rw [hu] at x2; rw [hq] at x3; rw [hc] at x4; rw [hs] at x5
      clear hc hq hu hs
      generalize n / 2 = y1 at *
      generalize n / 2048 = y2 at *
      generalize n / 4096 = y3 at *
      generalize n / 1048576 = y4 at *
      generalize n / 2097152 = y5 at *
      show _ = n % 2097152
      generalize n % 2097152 = y6 at *
      omega)
    rw [hc, hq, hu, hs] at e
    clear hc hq hu hs hi
    obtain ⟨q0, q1, q2, q3, q4, q5⟩ := J_digits V (lo x) d c q u s hl d3 hc2 hq2 hu2 hs2 (by omega)
    rw [q0, q1, q2, q3, q4, q5, hback]
    refine ⟨by simp, rfl, fun h => by cases h⟩
  · have d4 : d = 0 := by have := d2 trivial; omega
    have a4 : a = 0 := by have := a2 trivial; omega
    have b4 : b = 0 := by have := b2 trivial; omega
    subst d4 a4 b4 hi
    have hV2 : V = 1048691 := by omega
    have : x = 42 := by
      unfold fm at hf
      (repeat' split at hf) <;> first | omega | cases hf
    subst this hV2
    exact ⟨⟨by decide, by decide⟩, rfl, fun _ => rfl⟩
theorem dec_iff (v : BitVec 64) (hv : v.toNat < 4294967296) (x d a b n : Int) : decF v = some (x, d, a, b, n) ↔ MayS x d a b n ∧ encS x.toNat d a b n = (v.toNat : Int) := by
  constructor
  · intro h
    cases hf : findF v with
    | none => unfold decF at h; rw [hf] at h; cases h
    | some y =>
      have hy := findF_le v y hf
      rw [dec_is v y hf] at h
      by_cases hE : fm y = .E ∧ v.toNat ≠ 1048691
      · rw [if_pos hE] at h; cases h
      · rw [if_neg hE] at h
        injection h with h
        have g := decS_ok v.toNat y hv hy ((find_iff v y hy).1 hf) (fun e => Decidable.byContradiction fun e' => hE ⟨e, e'⟩)
        injection h with h1 h2
        subst h1
        rw [h2] at g
        exact ⟨g.1, by simpa using g.2⟩
  · rintro ⟨m, e⟩
    obtain ⟨y, rfl⟩ := Int.eq_ofNat_of_zero_le m.op0
    have hy : y ≤ 42 := by have := m.op1; omega
    simp only [Int.toNat_natCast] at e
    obtain ⟨hF, hD, hE⟩ := encS_ok v.toNat y d a b n hv m e
    have hf := (find_iff v y hy).2 hF
    rw [dec_is v y hf, if_neg (fun h => h.2 (hE h.1)), hD]
/-- A word is below 2 ^ 32, and not below 0. -/
theorem encS_range (x : Nat) (d a b n : Int) (m : MayS (x : Int) d a b n) : 0 ≤ encS x d a b n ∧ encS x d a b n < 4294967296 := by
  obtain ⟨_, hx, hd, ha, hb, hi⟩ := m
  simp only [Int.toNat_natCast] at hd ha hb hi
  have hl := lo_lt x
  have hk := kd_lt x
  have ht := tp_lt x
  unfold encS
  unfold regS at hd ha hb
  cases hf : fm x <;> rw [hf] at hd ha hb hi <;> simp only [Fm.d, Fm.a, Fm.b, immS] at hd ha hb hi ⊢
  · omega
  · cases hs : shf x
    · rw [hs] at hi
      simp only [Bool.false_eq_true, if_false] at hi ⊢
      omega
    · rw [hs] at hi
      simp only [if_true] at hi ⊢
      omega
  · omega
  · omega
  · omega
  · omega
  · omega

theorem S_back {n : Int} (h : (Lit.int .i64 n).wf = true) : S (BitVec.ofInt 64 n) = n := S_of (wf_i64 h).1 (wf_i64 h).2
theorem mayO_yes {op d a b n : Int} (h : (Lit.int .i64 n).wf = true) (m : MayS op d a b n) : mayO op d a b n = some true := by
  unfold mayO
  rw [if_pos (S_back h), (may_iff op d a b _).2 (by rw [S_back h]; exact m)]
theorem mayO_no {op d a b n : Int} (h : (Lit.int .i64 n).wf = true) (m : ¬ MayS op d a b n) : mayO op d a b n = some false := by
  unfold mayO
  have g : mayF op d a b (BitVec.ofInt 64 n) = false := Bool.eq_false_iff.2 (fun e => m (by have := (may_iff op d a b _).1 e; rwa [S_back h] at this))
  rw [if_pos (S_back h), g]
theorem encO_yes {op d a b n : Int} (h : (Lit.int .i64 n).wf = true) (m : MayS op d a b n) : encO op d a b n = some (encS op.toNat d a b n, 0) := by
  have m' : MayS op d a b (S (BitVec.ofInt 64 n)) := by rw [S_back h]; exact m
  unfold encO
  rw [if_pos (S_back h), if_pos ((may_iff op d a b _).2 m'), enc_is op d a b _ m', S_back h]
theorem encO_no {op d a b n : Int} (h : (Lit.int .i64 n).wf = true) (m : ¬ MayS op d a b n) : encO op d a b n = some (0, 1) := by
  unfold encO
  rw [if_pos (S_back h), if_neg (fun e => m (by have := (may_iff op d a b _).1 e; rwa [S_back h] at this))]
theorem word_nat {w : Int} (h0 : 0 ≤ w) (h1 : w < 4294967296) : ((BitVec.ofInt 64 w).toNat : Int) = w := by
  have := U_of h0 (show w < 18446744073709551616 by omega)
  unfold U at this
  exact this
theorem decO_yes {w x d a b n : Int} (m : MayS x d a b n) (e : encS x.toNat d a b n = w) : decO w = some (x, d, a, b, n, 0) := by
  obtain ⟨y, rfl⟩ := Int.eq_ofNat_of_zero_le m.op0
  have r := encS_range y d a b n m
  rw [Int.toNat_natCast] at e
  rw [e] at r
  have hw := word_nat r.1 r.2
  unfold decO
  rw [if_pos ⟨by unfold U; exact hw, by omega⟩, (dec_iff _ (by omega) _ _ _ _ _).2 ⟨m, by rw [hw]; rw [Int.toNat_natCast]; exact e⟩]
theorem decO_no {w : Int} (h0 : 0 ≤ w) (h1 : w < 4294967296) (h : ∀ x d a b n, MayS x d a b n → encS x.toNat d a b n ≠ w) : decO w = some (0, 0, 0, 0, 0, 3) := by
  have hw := word_nat h0 h1
  unfold decO
  rw [if_pos ⟨by unfold U; exact hw, by omega⟩]
  cases hd : decF (BitVec.ofInt 64 w) with
  | none => rfl
  | some q =>
    obtain ⟨x, d, a, b, n⟩ := q
    have g := (dec_iff _ (by omega) x d a b n).1 hd
    exact absurd (g.2.trans hw) (h x d a b n g.1)
theorem decO_cases (w : Int) (h0 : 0 ≤ w) (h1 : w < 4294967296) :
    (∃ x d a b n, MayS x d a b n ∧ encS x.toNat d a b n = w ∧ decO w = some (x, d, a, b, n, 0)) ∨ ((∀ x d a b n, MayS x d a b n → encS x.toNat d a b n ≠ w) ∧ decO w = some (0, 0, 0, 0, 0, 3)) := by
  by_cases h : ∃ x d a b n, MayS x d a b n ∧ encS x.toNat d a b n = w
  · obtain ⟨x, d, a, b, n, m, e⟩ := h
    exact Or.inl ⟨x, d, a, b, n, m, e, decO_yes m e⟩
  · have h' : ∀ x d a b n, MayS x d a b n → encS x.toNat d a b n ≠ w := fun x d a b n m e => h ⟨x, d, a, b, n, m, e⟩
    exact Or.inr ⟨h', decO_no h0 h1 h'⟩
/-- One word, one instruction. -/
theorem encS_inj {x d a b n x' d' a' b' n' : Int} (m : MayS x d a b n) (m' : MayS x' d' a' b' n') (e : encS x.toNat d a b n = encS x'.toNat d' a' b' n') : x = x' ∧ d = d' ∧ a = a' ∧ b = b' ∧ n = n' := by
  have g := (decO_yes m e).symm.trans (decO_yes m' rfl)
  simp only [Option.some.injEq, Prod.mk.injEq, and_true] at g
  exact g
def Fm.c : Fm → UInt8
  | .R => 82 | .I => 73 | .S => 83 | .B => 66 | .U => 85 | .J => 74 | .E => 69
theorem s_list (f : Fm) : f.s.toList = [f.c] := by cases f <;> decide +kernel
theorem formF_at {op : Int} (h0 : 0 ≤ op) (h1 : op ≤ 42) : formF op = (fm op.toNat).s := by unfold formF; rw [if_pos ⟨h0, h1⟩]
theorem formF_no {op : Int} (h : ¬ (0 ≤ op ∧ op ≤ 42)) : formF op = ⟨#[]⟩ := by unfold formF; rw [if_neg h]
theorem lo_mod (x : Nat) (h : x ≤ 42) : lo x % 4 = 3 := by
  have g : ∀ n : Fin 43, lo n.val % 4 = 3 := by decide +kernel
  exact g ⟨x, by omega⟩
/-- The registers' places in a word. -/
theorem encS_fields {x : Nat} {d a b n : Int} (m : MayS (x : Int) d a b n) :
    encS x d a b n % 4 = 3 ∧ (fm x ≠ .S → fm x ≠ .B → fm x ≠ .E → encS x d a b n / 128 % 32 = d) ∧ ((fm x = .R ∨ fm x = .I ∨ fm x = .S ∨ fm x = .B) → encS x d a b n / 32768 % 32 = a) ∧ ((fm x = .R ∨ fm x = .S ∨ fm x = .B) → encS x d a b n / 1048576 % 32 = b) := by
  have r := encS_range x d a b n m
  obtain ⟨V, hV⟩ := Int.eq_ofNat_of_zero_le r.1
  have hV2 : V < 4294967296 := by omega
  obtain ⟨hF, hD, hE⟩ := encS_ok V x d a b n hV2 m hV
  have hl := lo_mod x (by have := m.op1; omega)
  have h0 := hF.1
  rw [hV]
  unfold decS at hD
  refine ⟨by omega, ?_, ?_, ?_⟩
  · intro h1 h2 h3
    cases hf : fm x <;> rw [hf] at hD h1 h2 h3 <;> simp only [Prod.mk.injEq] at hD
    · omega
    · omega
    · exact absurd rfl h1
    · exact absurd rfl h2
    · omega
    · omega
    · exact absurd rfl h3
  · intro h1
    cases hf : fm x <;> rw [hf] at hD h1 <;> simp only [Prod.mk.injEq] at hD
    · omega
    · omega
    · omega
    · omega
    · simp at h1
    · simp at h1
    · simp at h1
  · intro h1
    cases hf : fm x <;> rw [hf] at hD h1 <;> simp only [Prod.mk.injEq] at hD
    · omega
    · simp at h1
    · omega
    · omega
    · simp at h1
    · simp at h1
    · simp at h1
end Go.Proofs.YtbdlhhajblhmiaaDoor.Ins
