/- How many bits a number of four parts has. -/
import Derived.Test.YtcoclcbclbjdaaaRows
import Derived.Test.YtcoclcbclbjdaaaWide5
namespace Go.Proofs.Ytcoclcbclbjdaaa
set_option linter.unusedVariables false
set_option linter.unusedSimpArgs false
open Go.RowKit

/-- How many bits a number has. -/
def bl (x : Nat) : Nat := if x = 0 then 0 else x.log2 + 1
theorem bl_half (x : Nat) (h : x ≠ 0) : bl x = 1 + bl (x / 2) := by
  unfold bl
  rw [if_neg h]
  by_cases h1 : x / 2 = 0
  · rw [if_pos h1]
    have : x = 1 := by omega
    subst this; rfl
  · rw [if_neg h1, Nat.log2_def x, if_pos (by omega)]; omega
theorem bl_aux : ∀ (f x : Nat), x < 2 ^ f → Lib.bitLenAux f x = bl x
  | 0, x, h => by have : x = 0 := by simpa using h
                  subst this; rfl
  | f + 1, x, h => by
    unfold Lib.bitLenAux
    split
    · subst_vars; rfl
    · rename_i h0
      rw [bl_half x h0, bl_aux f (x / 2) (by rw [Nat.pow_succ] at h; omega)]
theorem bl_len (x : Nat) (h : x < 18446744073709551616) : Lib.bitLen x = bl x := bl_aux 64 x h
theorem bl_lt (x : Nat) : x < 2 ^ bl x := by
  unfold bl; split
  · subst_vars; decide
  · exact Nat.lt_log2_self
theorem bl_ge (x : Nat) (h : x ≠ 0) : 2 ^ (bl x - 1) ≤ x := by
  unfold bl; rw [if_neg h]; simpa using Nat.log2_self_le h
theorem bl_pos (x : Nat) (h : x ≠ 0) : 0 < bl x := by unfold bl; rw [if_neg h]; omega
theorem bl_of (x k : Nat) (h1 : 2 ^ k ≤ x) (h2 : x < 2 ^ (k + 1)) : bl x = k + 1 := by
  have hx : x ≠ 0 := by have := Nat.two_pow_pos k; omega
  unfold bl; rw [if_neg hx, (Nat.log2_eq_iff hx).2 ⟨h1, h2⟩]
theorem bl_mul (a k r : Nat) (ha : a ≠ 0) (hr : r < 2 ^ k) : bl (a * 2 ^ k + r) = k + bl a := by
  have h1 := bl_lt a
  have h2 := bl_ge a ha
  have h3 := bl_pos a ha
  obtain ⟨m, hm⟩ : ∃ m, bl a = m + 1 := ⟨bl a - 1, by omega⟩
  rw [hm] at h1 h2 ⊢
  have e : k + (m + 1) = (m + k) + 1 := by omega
  rw [e]
  apply bl_of
  · rw [Nat.pow_add]
    have := Nat.mul_le_mul_right (2 ^ k) (show 2 ^ m ≤ a by simpa using h2)
    omega
  · rw [show m + k + 1 = (m + 1) + k by omega, Nat.pow_add]
    have h4 := Nat.mul_le_mul_right (2 ^ k) (show a + 1 ≤ 2 ^ (m + 1) from h1)
    rw [Nat.add_mul, Nat.one_mul] at h4
    omega
theorem bl_le (x : Nat) (h : x < B256) : bl x ≤ 256 := by
  by_cases hx : x = 0
  · subst hx; decide
  · have := bl_ge x hx
    rcases Nat.lt_or_ge 256 (bl x) with hc | hc
    · have h2 : 2 ^ 256 ≤ 2 ^ (bl x - 1) := Nat.pow_le_pow_right (by decide) (by omega)
      have h3 : (2 ^ 256 : Nat) = B256 := by decide +kernel
      omega
    · exact hc

theorem long3 (x : Nat) (hx : x < B256) (h : lb x 3 ≠ 0) : bl x = 192 + bl (lb x 3) := by
  have e := w4_lb x
  rw [Nat.mod_eq_of_lt hx] at e
  have := lb_lt x 0; have := lb_lt x 1; have := lb_lt x 2
  have := bl_mul (lb x 3) 192 (lb x 0 + 18446744073709551616 * lb x 1 + 340282366920938463463374607431768211456 * lb x 2) h (by
    rw [show (2 : Nat) ^ 192 = 6277101735386680763835789423207666416102355444464034512896 by decide +kernel]; omega)
  rw [show (2 : Nat) ^ 192 = 6277101735386680763835789423207666416102355444464034512896 by decide +kernel] at this
  rw [← this]; congr 1; unfold w4 at e; omega
theorem long2 (x : Nat) (hx : x < B256) (h3 : lb x 3 = 0) (h : lb x 2 ≠ 0) : bl x = 128 + bl (lb x 2) := by
  have e := w4_lb x
  rw [Nat.mod_eq_of_lt hx] at e
  have := lb_lt x 0; have := lb_lt x 1
  have := bl_mul (lb x 2) 128 (lb x 0 + 18446744073709551616 * lb x 1) h (by
    rw [show (2 : Nat) ^ 128 = 340282366920938463463374607431768211456 by decide +kernel]; omega)
  rw [show (2 : Nat) ^ 128 = 340282366920938463463374607431768211456 by decide +kernel] at this
  rw [← this]; congr 1; unfold w4 at e; omega
theorem long1 (x : Nat) (hx : x < B256) (h3 : lb x 3 = 0) (h2 : lb x 2 = 0) (h : lb x 1 ≠ 0) : bl x = 64 + bl (lb x 1) := by
  have e := w4_lb x
  rw [Nat.mod_eq_of_lt hx] at e
  have := lb_lt x 0
  have := bl_mul (lb x 1) 64 (lb x 0) h (by
    rw [show (2 : Nat) ^ 64 = 18446744073709551616 by decide +kernel]; omega)
  rw [show (2 : Nat) ^ 64 = 18446744073709551616 by decide +kernel] at this
  rw [← this]; congr 1; unfold w4 at e; omega
theorem long0 (x : Nat) (hx : x < B256) (h3 : lb x 3 = 0) (h2 : lb x 2 = 0) (h1 : lb x 1 = 0) : bl x = bl (lb x 0) := by
  have e := w4_lb x
  rw [Nat.mod_eq_of_lt hx] at e
  congr 1; unfold w4 at e; omega

theorem len64_bl (x : Nat) (hx : x < 18446744073709551616) (w : World) :
    Calls Try.prog 37 #[.int .u64 x] w fun e w' => e = .returned (.int .i64 (bl x)) ∧ Grew w w' := by
  rw [← bl_len x hx]; exact len64_any x hx w

theorem lb_pos (x i : Nat) (h : lb x i ≠ 0) : (0 : Int) < (lb x i : Int) := by omega
theorem lb_nil (x i : Nat) (h : lb x i = 0) : ¬ (0 : Int) < (lb x i : Int) := by omega
theorem bl_64 (x i : Nat) : bl (lb x i) ≤ 64 := by rw [← bl_len _ (lb_lt _ _)]; exact Lib.bitLen_le _ 64 (by decide) (lb_lt _ _)

set_option maxRecDepth 100000 in
set_option maxHeartbeats 1600000 in
theorem long_any (x : Nat) (hx : x < B256) (w : World) :
    Calls Try.prog 29 #[.agg (wv x)] w fun e w' => e = .returned (.int .i64 (bl x)) ∧ Grew w w' := by
  have hc := fun i w => len64_bl (lb x i) (lb_lt x i) w
  have g0 := bl_64 x 0
  have g1 := bl_64 x 1
  have g2 := bl_64 x 2
  have g3 := bl_64 x 3
  by_cases h3 : lb x 3 = 0
  · have p3 := lb_nil x 3 h3
    by_cases h2 : lb x 2 = 0
    · have p2 := lb_nil x 2 h2
      by_cases h1 : lb x 1 = 0
      · have p1 := lb_nil x 1 h1
        by_cases h0 : lb x 0 = 0
        · have p0 := lb_nil x 0 h0
          have H := Lib.hid (long0 x hx h3 h2 h1)
          have H0 := Lib.hid h0
          clear h0 h1 h2 h3 hx g0 g1 g2 g3 hc
          go_enter Try.func29, Try.ntmps29
          go_wp2
          refine wp_loop_rounds 5 ?_
          iterate 4
            rw [rounds_succ]
            go_wp2
          rw [rounds_succ]
          go_wp2
          go_ret
          exact ⟨by rw [H.out, H0.out]; rfl, (by repeat (first | with_reducible exact Grew.refl _ | with_reducible apply Grew.alloc | with_reducible apply Grew.grow | with_reducible apply Grew.drew | with_reducible apply Grew.drewN))⟩
        · have p0 := lb_pos x 0 h0
          have H := Lib.hid (long0 x hx h3 h2 h1)
          clear h0 h1 h2 h3 hx
          go_enter Try.func29, Try.ntmps29
          go_wp2
          refine wp_loop_rounds 5 ?_
          iterate 4
            rw [rounds_succ]
            go_wp2_with (go_at_call 37; refine (hc 0 _).mono ?_; rintro e w' ⟨rfl, δ, rfl⟩)
          go_ret
          exact ⟨by rw [H.out]; simp, (by repeat (first | with_reducible exact Grew.refl _ | with_reducible apply Grew.alloc | with_reducible apply Grew.grow | with_reducible apply Grew.drew | with_reducible apply Grew.drewN))⟩
      · have p1 := lb_pos x 1 h1
        have H := Lib.hid (long1 x hx h3 h2 h1)
        clear h1 h2 h3 hx
        go_enter Try.func29, Try.ntmps29
        go_wp2
        refine wp_loop_rounds 5 ?_
        iterate 3
          rw [rounds_succ]
          go_wp2_with (go_at_call 37; refine (hc 1 _).mono ?_; rintro e w' ⟨rfl, δ, rfl⟩)
        go_ret
        exact ⟨by rw [H.out]; simp, (by repeat (first | with_reducible exact Grew.refl _ | with_reducible apply Grew.alloc | with_reducible apply Grew.grow | with_reducible apply Grew.drew | with_reducible apply Grew.drewN))⟩
    · have p2 := lb_pos x 2 h2
      have H := Lib.hid (long2 x hx h3 h2)
      clear h2 h3 hx
      go_enter Try.func29, Try.ntmps29
      go_wp2
      refine wp_loop_rounds 5 ?_
      iterate 2
        rw [rounds_succ]
        go_wp2_with (go_at_call 37; refine (hc 2 _).mono ?_; rintro e w' ⟨rfl, δ, rfl⟩)
      go_ret
      exact ⟨by rw [H.out]; simp, (by repeat (first | with_reducible exact Grew.refl _ | with_reducible apply Grew.alloc | with_reducible apply Grew.grow | with_reducible apply Grew.drew | with_reducible apply Grew.drewN))⟩
  · have p3 := lb_pos x 3 h3
    have H := Lib.hid (long3 x hx h3)
    clear h3 hx
    go_enter Try.func29, Try.ntmps29
    go_wp2
    refine wp_loop_rounds 5 ?_
    rw [rounds_succ]
    go_wp2_with (go_at_call 37; refine (hc 3 _).mono ?_; rintro e w' ⟨rfl, δ, rfl⟩)
    go_ret
    exact ⟨by rw [H.out]; simp, (by repeat (first | with_reducible exact Grew.refl _ | with_reducible apply Grew.alloc | with_reducible apply Grew.grow | with_reducible apply Grew.drew | with_reducible apply Grew.drewN))⟩
end Go.Proofs.Ytcoclcbclbjdaaa
