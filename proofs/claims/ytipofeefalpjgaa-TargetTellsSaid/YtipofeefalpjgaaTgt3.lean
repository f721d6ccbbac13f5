/- target's Level: the search. -/
import Derived.Test.YtipofeefalpjgaaRows
import Derived.Test.YtipofeefalpjgaaTgt2
namespace Go.Proofs.Ytipofeefalpjgaa
set_option linter.unusedVariables false
set_option linter.unusedSimpArgs false
open Go.RowKit

/-- How many of the first 'm' halvings of 't' are no less than 'n'. -/
def lev (n t : Nat) : Nat → Nat
  | 0 => 0
  | m + 1 => if n ≤ t >>> m then m + 1 else lev n t m
theorem shr_anti (t k m : Nat) (h : k ≤ m) : t >>> m ≤ t >>> k := by
  obtain ⟨d, rfl⟩ : ∃ d, m = k + d := ⟨m - k, by omega⟩
  rw [Nat.shiftRight_add]; exact Nat.shiftRight_le _ _
theorem lev_spec (n t : Nat) : ∀ m, lev n t m ≤ m ∧ ∀ k, k < m → (k < lev n t m ↔ n ≤ t >>> k)
  | 0 => ⟨Nat.le_refl _, fun k hk => by omega⟩
  | m + 1 => by
    obtain ⟨h1, h2⟩ := lev_spec n t m
    unfold lev
    by_cases h : n ≤ t >>> m
    · rw [if_pos h]
      exact ⟨Nat.le_refl _, fun k hk => ⟨fun _ => Nat.le_trans h (shr_anti t k m (by omega)), fun _ => hk⟩⟩
    · rw [if_neg h]
      refine ⟨by omega, fun k hk => ?_⟩
      by_cases hkm : k = m
      · subst hkm; exact ⟨fun hh => by omega, fun hh => absurd hh h⟩
      · exact h2 k (by omega)
noncomputable def levW (n t : Wd) : Nat := lev n.n t.n 32
theorem levW_le (n t : Wd) : levW n t ≤ 32 := (lev_spec _ _ _).1
theorem levW_iff (n t : Wd) (k : Nat) (hk : k < 32) : k < levW n t ↔ n.n ≤ t.n >>> k := (lev_spec _ _ _).2 k hk
theorem above_lev (n t : Wd) (k : Nat) (hk : k < 32) : decide (0 < n.cmp (t.down k)) = decide (levW n t ≤ k) := by
  rw [Wd.cmp_pos, Wd.down_n, Bool.eq_iff_iff, decide_eq_true_eq, decide_eq_true_eq]
  have := levW_iff n t k hk
  omega
theorem above_k (n t : Wd) (k : Int) (h0 : 0 ≤ k) (hk : k < 32) (p q : Nat) (w : World) (h1 : w.rowAt p = wv n.n) (h2 : w.rowAt q = wv t.n) :
    Calls Try.prog 30 #[.int .i64 k, .pointer (some ⟨p, 0, none⟩), .pointer (some ⟨q, 0, none⟩)] w fun e w' => e = .returned (.bool (decide ((levW n t : Int) ≤ k))) ∧ Grew w w' := by
  obtain ⟨m, rfl⟩ := Int.eq_ofNat_of_zero_le h0
  have e : decide ((levW n t : Int) ≤ (m : Int)) = decide (levW n t ≤ m) := by rw [Bool.eq_iff_iff, decide_eq_true_eq, decide_eq_true_eq]; omega
  rw [e, ← above_lev n t m (by omega)]
  exact above_w n t m p q w h1 h2

set_option maxRecDepth 100000 in
set_option maxHeartbeats 1600000 in
theorem search_w (n t : Wd) (p q : Nat) (w : World) (h1 : w.rowAt p = wv n.n) (h2 : w.rowAt q = wv t.n) :
    Calls Try.prog 31 #[.int .i64 32, .func (.func 30) #[] #[.pointer (some ⟨p, 0, none⟩), .pointer (some ⟨q, 0, none⟩)]] w fun e w' => e = .returned (.int .i64 (levW n t)) ∧ Grew w w' := by
  have l1 := row_lt w (n := 3) (g := p) (by rw [h1]; rfl)
  have l2 := row_lt w (n := 3) (g := q) (by rw [h2]; rfl)
  have H1 := Lib.hid h1
  have H2 := Lib.hid h2
  have hl := levW_le n t
  clear h1 h2
  go_enter Try.func31, Try.ntmps31
  go_wp2
  go_loopw [5, 6] (fun x y wr => ∃ (i j : Nat) (δ : Junk), x = .int .i64 i ∧ y = .int .i64 j ∧ i ≤ levW n t ∧ levW n t ≤ j ∧ j ≤ 32 ∧ wr = w.grow δ) (fun x y _ => (intOf y - intOf x).toNat)
  case atStart => exact ⟨0, 32, ⟨#[], w.drawn⟩, rfl, rfl, by omega, hl, by omega, (grow_self w).symm⟩
  case round =>
    obtain ⟨i, j, δ, rfl, rfl, hi, hj, hj2, rfl⟩ := hrel
    by_cases hn : i < j
    · obtain ⟨h, hh⟩ : ∃ h : Nat, h = (i + j) / 2 := ⟨_, rfl⟩
      have e : ((i : Int) + (j : Int)) / 2 = (h : Int) := by omega
      have hb1 : i ≤ h := by omega
      have hb2 : h < j := by omega
      have r1 : (w.grow δ).rowAt p = wv n.n := by rw [rowAt_grow_old w δ p l1]; exact H1.out
      have r2 : (w.grow δ).rowAt q = wv t.n := by rw [rowAt_grow_old w δ q l2]; exact H2.out
      have R1 := Lib.hid r1
      have R2 := Lib.hid r2
      clear r1 r2 hh
      cases hc : decide (levW n t ≤ h)
      · have hc' : ¬ levW n t ≤ h := of_decide_eq_false hc
        go_wp2_with (go_at_call 30; refine (above_k n t _ (by omega) (by omega) _ _ _ R1.out R2.out).mono ?_; rintro e w' ⟨rfl, δ', rfl⟩)
        exact ⟨⟨h + 1, j, _, by go_num, rfl, by omega, hj, hj2, rfl⟩, by simp only [intOf]; omega⟩
      · have hc' : levW n t ≤ h := of_decide_eq_true hc
        go_wp2_with (go_at_call 30; refine (above_k n t _ (by omega) (by omega) _ _ _ R1.out R2.out).mono ?_; rintro e w' ⟨rfl, δ', rfl⟩)
        exact ⟨⟨i, h, _, rfl, rfl, hi, hc', by omega, rfl⟩, by simp only [intOf]; omega⟩
    · go_wp2
      go_ret
      exact ⟨congrArg Ending.returned (congrArg (Value.int IntKind.i64) (by omega)), (by repeat (first | with_reducible exact Grew.refl _ | with_reducible apply Grew.alloc | with_reducible apply Grew.grow | with_reducible apply Grew.drew | with_reducible apply Grew.drewN))⟩

/-- The level of an id. -/
noncomputable def lv (i : Idb) (t : Wd) : Int := (levW i.w t : Int) - 1
theorem lv_bd (i : Idb) (t : Wd) : -1 ≤ lv i t ∧ lv i t ≤ 31 := by have := levW_le i.w t; unfold lv; omega
set_option maxRecDepth 100000 in
set_option maxHeartbeats 1600000 in
theorem level_i (i : Idb) (t : Wd) (w : World) :
    Calls Try.prog 16 #[.agg (iv i.l), .agg (wv t.n)] w fun e w' => e = .returned (.int .i64 (lv i t)) ∧ Grew w w' := by
  have hb := levW_le i.w t
  go_enter Try.func16, Try.ntmps16
  go_wp2_with (go_at_call 22; refine (of32_i i _).mono ?_; rintro e w' ⟨rfl, δ, rfl⟩)
  refine (search_w i.w t _ _ _ (by simp [go_sem]) (by simp [go_sem])).mono ?_
  rintro e w' ⟨rfl, δ', rfl⟩
  go_wp2
  go_ret
  exact ⟨rfl, (by repeat (first | with_reducible exact Grew.refl _ | with_reducible apply Grew.alloc | with_reducible apply Grew.grow | with_reducible apply Grew.drew | with_reducible apply Grew.drewN))⟩
end Go.Proofs.Ytipofeefalpjgaa
