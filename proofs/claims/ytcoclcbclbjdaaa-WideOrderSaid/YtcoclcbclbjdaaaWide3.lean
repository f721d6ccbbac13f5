/- wide's Cmp. -/
import Derived.Test.YtcoclcbclbjdaaaRows
import Derived.Test.YtcoclcbclbjdaaaWide2
namespace Go.Proofs.Ytcoclcbclbjdaaa
set_option linter.unusedVariables false
set_option linter.unusedSimpArgs false
open Go.RowKit

/-- -1, 0 or 1. -/
def cmpN (x y : Nat) : Int := if x < y then -1 else if y < x then 1 else 0
set_option maxHeartbeats 400000 in
theorem isNaN_any (a : Nat) (w : World) : Calls Try.prog 38 #[.int .u64 a] w fun e w' => e = .returned (.bool false) ∧ Grew w w' := by
  go_enter Try.func38, Try.ntmps38
  go_wp2
  go_ret
  exact ⟨by simp, Grew.refl _⟩
set_option maxHeartbeats 400000 in
theorem compare_any (a b : Nat) (w : World) : Calls Try.prog 31 #[.int .u64 a, .int .u64 b] w fun e w' => e = .returned (.int .i64 (cmpN a b)) ∧ Grew w w' := by
  by_cases h1 : a < b
  · go_enter Try.func31, Try.ntmps31
    go_wp2_with (go_at_call 38; refine (isNaN_any _ _).mono ?_; rintro e w' ⟨rfl, δ, rfl⟩)
    go_ret
    exact ⟨by simp [cmpN, h1], (by repeat (first | with_reducible exact Grew.refl _ | with_reducible apply Grew.alloc | with_reducible apply Grew.grow | with_reducible apply Grew.drew | with_reducible apply Grew.drewN))⟩
  by_cases h2 : b < a
  · go_enter Try.func31, Try.ntmps31
    go_wp2_with (go_at_call 38; refine (isNaN_any _ _).mono ?_; rintro e w' ⟨rfl, δ, rfl⟩)
    go_ret
    exact ⟨by simp [cmpN, h1, h2], (by repeat (first | with_reducible exact Grew.refl _ | with_reducible apply Grew.alloc | with_reducible apply Grew.grow | with_reducible apply Grew.drew | with_reducible apply Grew.drewN))⟩
  · go_enter Try.func31, Try.ntmps31
    go_wp2_with (go_at_call 38; refine (isNaN_any _ _).mono ?_; rintro e w' ⟨rfl, δ, rfl⟩)
    go_ret
    exact ⟨by simp [cmpN, h1, h2], (by repeat (first | with_reducible exact Grew.refl _ | with_reducible apply Grew.alloc | with_reducible apply Grew.grow | with_reducible apply Grew.drew | with_reducible apply Grew.drewN))⟩

def or4 (a b c d : Int) : Int := if a ≠ 0 then a else if b ≠ 0 then b else if c ≠ 0 then c else d
set_option maxRecDepth 100000 in
set_option maxHeartbeats 800000 in
theorem or_any (a b c d : Int) (g : Nat) (w : World) (h0 : w.cell? ⟨g, 0, none⟩ = some (.int .i64 a)) (h1 : w.cell? ⟨g, 1, none⟩ = some (.int .i64 b)) (h2 : w.cell? ⟨g, 2, none⟩ = some (.int .i64 c)) (h3 : w.cell? ⟨g, 3, none⟩ = some (.int .i64 d)) :
    Calls Try.prog 30 #[.slice (some ⟨g, 0, none⟩) 4 4] w fun e w' => e = .returned (.int .i64 (or4 a b c d)) ∧ Grew w w' := by
  by_cases ha : a = 0
  · subst ha
    by_cases hb : b = 0
    · subst hb
      by_cases hc : c = 0
      · subst hc
        by_cases hd : d = 0
        · subst hd
          go_enter Try.func30, Try.ntmps30
          go_wp2
          refine wp_loop_rounds 5 ?_
          iterate 4
            rw [rounds_succ]
            go_wp2
          rw [rounds_succ]
          go_wp2
          go_ret
          exact ⟨rfl, Grew.refl _⟩
        · have hd' : (d != 0) = true := by simpa using hd
          go_enter Try.func30, Try.ntmps30
          go_wp2
          refine wp_loop_rounds 5 ?_
          iterate 4
            rw [rounds_succ]
            go_wp2
          go_ret
          exact ⟨by simp [or4], Grew.refl _⟩
      · have hc' : (c != 0) = true := by simpa using hc
        go_enter Try.func30, Try.ntmps30
        go_wp2
        refine wp_loop_rounds 5 ?_
        iterate 3
          rw [rounds_succ]
          go_wp2
        go_ret
        exact ⟨by simp [or4, hc], Grew.refl _⟩
    · have hb' : (b != 0) = true := by simpa using hb
      go_enter Try.func30, Try.ntmps30
      go_wp2
      refine wp_loop_rounds 5 ?_
      iterate 2
        rw [rounds_succ]
        go_wp2
      go_ret
      exact ⟨by simp [or4, hb], Grew.refl _⟩
  · have ha' : (a != 0) = true := by simpa using ha
    go_enter Try.func30, Try.ntmps30
    go_wp2
    refine wp_loop_rounds 5 ?_
    rw [rounds_succ]
    go_wp2
    go_ret
    exact ⟨by simp [or4, ha], Grew.refl _⟩

theorem cmpN_lt {x y : Nat} (h : x < y) : cmpN x y = -1 := by unfold cmpN; rw [if_pos h]
theorem cmpN_gt {x y : Nat} (h : y < x) : cmpN x y = 1 := by unfold cmpN; rw [if_neg (by omega), if_pos h]
theorem cmpN_eq {x y : Nat} (h : x = y) : cmpN x y = 0 := by unfold cmpN; rw [if_neg (by omega), if_neg (by omega)]
theorem cmp_parts (x y : Nat) (hx : x < B256) (hy : y < B256) : or4 (cmpN (lb x 3) (lb y 3)) (cmpN (lb x 2) (lb y 2)) (cmpN (lb x 1) (lb y 1)) (cmpN (lb x 0) (lb y 0)) = cmpN x y := by
  have ex := w4_lb x
  have ey := w4_lb y
  rw [Nat.mod_eq_of_lt hx] at ex
  rw [Nat.mod_eq_of_lt hy] at ey
  clear hx hy
  have := lb_lt x 0; have := lb_lt x 1; have := lb_lt x 2; have := lb_lt x 3
  have := lb_lt y 0; have := lb_lt y 1; have := lb_lt y 2; have := lb_lt y 3
  unfold w4 at ex ey
  generalize lb x 0 = x0 at *; generalize lb x 1 = x1 at *; generalize lb x 2 = x2 at *; generalize lb x 3 = x3 at *
  generalize lb y 0 = y0 at *; generalize lb y 1 = y1 at *; generalize lb y 2 = y2 at *; generalize lb y 3 = y3 at *
  rcases Nat.lt_trichotomy x3 y3 with h | h | h
  · simp [or4, cmpN_lt h, cmpN_lt (show x < y by omega)]
  · rcases Nat.lt_trichotomy x2 y2 with h2 | h2 | h2
    · simp [or4, cmpN_eq h, cmpN_lt h2, cmpN_lt (show x < y by omega)]
    · rcases Nat.lt_trichotomy x1 y1 with h1 | h1 | h1
      · simp [or4, cmpN_eq h, cmpN_eq h2, cmpN_lt h1, cmpN_lt (show x < y by omega)]
      · rcases Nat.lt_trichotomy x0 y0 with h0 | h0 | h0
        · simp [or4, cmpN_eq h, cmpN_eq h2, cmpN_eq h1, cmpN_lt h0, cmpN_lt (show x < y by omega)]
        · simp [or4, cmpN_eq h, cmpN_eq h2, cmpN_eq h1, cmpN_eq h0, cmpN_eq (show x = y by omega)]
        · simp [or4, cmpN_eq h, cmpN_eq h2, cmpN_eq h1, cmpN_gt h0, cmpN_gt (show y < x by omega)]
      · simp [or4, cmpN_eq h, cmpN_eq h2, cmpN_gt h1, cmpN_gt (show y < x by omega)]
    · simp [or4, cmpN_eq h, cmpN_gt h2, cmpN_gt (show y < x by omega)]
  · simp [or4, cmpN_gt h, cmpN_gt (show y < x by omega)]

set_option maxRecDepth 100000 in
set_option maxHeartbeats 1600000 in
theorem cmp_any (x y : Nat) (hx : x < B256) (hy : y < B256) (w : World) :
    Calls Try.prog 13 #[.agg (wv x), .agg (wv y)] w fun e w' => e = .returned (.int .i64 (cmpN x y)) ∧ Grew w w' := by
  have H := Lib.hid (cmp_parts x y hx hy)
  clear hx hy
  go_enter Try.func13, Try.ntmps13
  go_wp2
  first | refine wp_region_pure_tail_g 20 (by kernel_rfl) (by kernel_rfl) (by intro _ _ _ d _ h; cases d <;> exact h) ?_ | refine wp_region_pure_tail 20 (by kernel_rfl) (by kernel_rfl) (by intro _ _ _ d _ h; cases d <;> exact h) ?_
  simp only [List.take_succ_cons, List.take_zero, List.drop_succ_cons, List.drop_zero]
  repeat (go_big_quiet_step ((go_at_call 31; exact Calls.pure_of (compare_any _ _ _))))
  refine wpQuiet_nil ?_
  intro _ hw'
  obtain ⟨δ1, hw''⟩ := hw'
  subst hw''
  go_wp2_with (go_at_call 30; refine (or_any (cmpN (lb x 3) (lb y 3)) (cmpN (lb x 2) (lb y 2)) (cmpN (lb x 1) (lb y 1)) (cmpN (lb x 0) (lb y 0)) _ _ (by simp [go_sem]) (by simp [go_sem]) (by simp [go_sem]) (by simp [go_sem])).mono ?_; rintro e w' ⟨rfl, δ, rfl⟩)
  go_ret
  exact ⟨by first | rfl | (rw [H.out]; rfl), (by repeat (first | with_reducible exact Grew.refl _ | with_reducible apply Grew.alloc | with_reducible apply Grew.grow | with_reducible apply Grew.drew | with_reducible apply Grew.drewN))⟩
end Go.Proofs.Ytcoclcbclbjdaaa
