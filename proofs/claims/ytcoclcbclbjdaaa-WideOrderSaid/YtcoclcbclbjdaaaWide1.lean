/- What wide's functions hand back: Of, at, Up, Down. -/
import Derived.Test.YtcoclcbclbjdaaaRows
import Derived.Test.YtcoclcbclbjdaaaWideMath
namespace Go.Proofs.Ytcoclcbclbjdaaa
set_option linter.unusedVariables false
set_option linter.unusedSimpArgs false
open Go.RowKit

theorem wv_of {n : Nat} (h : n < 18446744073709551616) : wv n = #[Value.int .u64 n, Value.int .u64 0, Value.int .u64 0, Value.int .u64 0] := by
  have := wv_w4 (a := n) (b := 0) (c := 0) (d := 0) h (by omega) (by omega) (by omega)
  simp only [w4, Nat.mul_zero, Nat.add_zero] at this
  rw [← this]; rfl

set_option maxHeartbeats 400000 in
theorem of_any (n : Nat) (h : n < 18446744073709551616) (w : World) :
    Calls Try.prog 16 #[.int .u64 n] w fun e w' => e = .returned (.agg (wv n)) ∧ Grew w w' := by
  have hw := wv_of h
  go_enter Try.func16, Try.ntmps16
  go_wp2
  refine bodyPost_ret (v := .agg (wv n)) ?_ rfl ⟨rfl, (Grew.refl _).alloc _⟩
  simp [results, Try.results16, go_sem]
  exact hw.symm

theorem atL_of (x : Nat) (i : Nat) (h : i < 4) : atL x i = lb x i := by
  unfold atL; rw [if_neg (by omega)]; rfl

set_option maxHeartbeats 400000 in
theorem at_any (x : Nat) (i : Int) (w : World) :
    Calls Try.prog 35 #[.agg (wv x), .int .i64 i] w fun e w' => e = .returned (.int .u64 (atL x i)) ∧ Grew w w' := by
  unfold wv
  by_cases h0 : i < 0
  · go_enter Try.func35, Try.ntmps35
    go_wp2
    go_ret
    exact ⟨by simp [atL, h0], (Grew.refl _).alloc _⟩
  by_cases h4 : 4 ≤ i
  · go_enter Try.func35, Try.ntmps35
    go_wp2
    go_ret
    exact ⟨by simp [atL, h4], (Grew.refl _).alloc _⟩
  have : i = 0 ∨ i = 1 ∨ i = 2 ∨ i = 3 := by omega
  rcases this with rfl | rfl | rfl | rfl <;> clear h0 h4
  all_goals
    go_enter Try.func35, Try.ntmps35
    go_wp2
    go_ret
    exact ⟨rfl, (Grew.refl _).alloc _⟩

theorem bits_or_u64 (a b : Nat) (ha : a < 18446744073709551616) (hb : b < 18446744073709551616) : bits .or .u64 (a:Int) (b:Int) = ((a ||| b : Nat) : Int) := by
  have hx : a ||| b < 2 ^ 64 := Nat.or_lt_two_pow (by omega) (by omega)
  have h1 : (BitVec.ofInt 64 (a : Int)).toNat = a := by
    rw [BitVec.ofInt_natCast, BitVec.toNat_ofNat]; exact Nat.mod_eq_of_lt (by omega)
  have h2 : (BitVec.ofInt 64 (b : Int)).toNat = b := by
    rw [BitVec.ofInt_natCast, BitVec.toNat_ofNat]; exact Nat.mod_eq_of_lt (by omega)
  show IntKind.u64.wrap ((BitVec.ofInt 64 (a : Int) ||| BitVec.ofInt 64 (b : Int)).toNat : Int) = _
  rw [BitVec.toNat_or, h1, h2, IntKind.wrap_u64]
  omega

theorem upl_bits (x y s : Nat) (hs : s < 64) (hy : y < 18446744073709551616) :
    bits .or .u64 (IntKind.u64.wrap ((x : Int) * 2 ^ s)) ((y : Int) / 2 / 2 ^ (63 - s)) = ((upl x y s : Nat) : Int) := by
  have e1 : IntKind.u64.wrap ((x : Int) * 2 ^ s) = ((x <<< s % 18446744073709551616 : Nat) : Int) := by
    rw [IntKind.wrap_u64, Nat.shiftLeft_eq, Int.natCast_emod, Int.natCast_mul, Int.natCast_pow]; rfl
  have e3 : y >>> (64 - s) = y / 2 / 2 ^ (63 - s) := by
    rw [show 64 - s = 1 + (63 - s) by omega, Nat.shiftRight_add, Nat.shiftRight_eq_div_pow, Nat.shiftRight_eq_div_pow]
  have e2 : ((y : Int) / 2 / 2 ^ (63 - s)) = ((y >>> (64 - s) : Nat) : Int) := by
    rw [e3, Int.natCast_ediv, Int.natCast_ediv, Int.natCast_pow]; rfl
  rw [e1, e2, bits_or_u64 _ _ (Nat.mod_lt _ (by decide)) (Nat.lt_of_le_of_lt (Nat.shiftRight_le _ _) hy)]
  rfl

theorem dnl_bits (x y s : Nat) (hs : s < 64) (hx : x < 18446744073709551616) :
    bits .or .u64 ((x : Int) / 2 ^ s) (IntKind.u64.wrap (IntKind.u64.wrap ((y : Int) * 2) * 2 ^ (63 - s))) = ((dnl x y s : Nat) : Int) := by
  have e1 : ((x : Int) / 2 ^ s) = ((x >>> s : Nat) : Int) := by
    rw [Nat.shiftRight_eq_div_pow, Int.natCast_ediv, Int.natCast_pow]; rfl
  have e2 : IntKind.u64.wrap (IntKind.u64.wrap ((y : Int) * 2) * 2 ^ (63 - s)) = ((y <<< (64 - s) % 18446744073709551616 : Nat) : Int) := by
    rw [IntKind.wrap_u64, IntKind.wrap_u64, show 64 - s = 1 + (63 - s) by omega, Nat.shiftLeft_add, Nat.shiftLeft_eq, Nat.shiftLeft_eq, Int.natCast_emod, Int.natCast_mul, Int.natCast_pow, Int.natCast_mul, Int.mul_emod, Int.emod_emod, ← Int.mul_emod]
    rfl
  rw [e1, e2, bits_or_u64 _ _ (Nat.lt_of_le_of_lt (Nat.shiftRight_le _ _) hx) (Nat.mod_lt _ (by decide))]
  rfl

theorem up_cells (x n : Nat) (hx : x < B256) :
    #[Value.int .u64 (upl (atL x (-((n : Int) / 64))) (atL x (-((n : Int) / 64) - 1)) (n % 64)),
      Value.int .u64 (upl (atL x (1 - (n : Int) / 64)) (atL x (1 - (n : Int) / 64 - 1)) (n % 64)),
      Value.int .u64 (upl (atL x (2 - (n : Int) / 64)) (atL x (2 - (n : Int) / 64 - 1)) (n % 64)),
      Value.int .u64 (upl (atL x (3 - (n : Int) / 64)) (atL x (3 - (n : Int) / 64 - 1)) (n % 64))] = wv (x <<< n) := by
  have e : ((n / 64 : Nat) : Int) = (n : Int) / 64 := rfl
  have h0 := up_part x n 0 hx (by omega)
  have h1 := up_part x n 1 hx (by omega)
  have h2 := up_part x n 2 hx (by omega)
  have h3 := up_part x n 3 hx (by omega)
  rw [e] at h0 h1 h2 h3
  unfold wv
  rw [h0, h1, h2, h3]
  simp

theorem down_cells (x n : Nat) (hx : x < B256) :
    #[Value.int .u64 (dnl (atL x ((n : Int) / 64)) (atL x ((n : Int) / 64 + 1)) (n % 64)),
      Value.int .u64 (dnl (atL x (1 + (n : Int) / 64)) (atL x (1 + (n : Int) / 64 + 1)) (n % 64)),
      Value.int .u64 (dnl (atL x (2 + (n : Int) / 64)) (atL x (2 + (n : Int) / 64 + 1)) (n % 64)),
      Value.int .u64 (dnl (atL x (3 + (n : Int) / 64)) (atL x (3 + (n : Int) / 64 + 1)) (n % 64))] = wv (x >>> n) := by
  have e : ((n / 64 : Nat) : Int) = (n : Int) / 64 := rfl
  have h0 := down_part x n 0 hx (by omega)
  have h1 := down_part x n 1 hx (by omega)
  have h2 := down_part x n 2 hx (by omega)
  have h3 := down_part x n 3 hx (by omega)
  rw [e] at h0 h1 h2 h3
  unfold wv
  rw [h0, h1, h2, h3]
  simp

set_option maxRecDepth 100000 in
set_option maxHeartbeats 1600000 in
theorem up_lt (x n : Nat) (hx : x < B256) (w : World) (hi : n < 256) :
    Calls Try.prog 17 #[.agg (wv x), .int .i64 n] w fun e w' => e = .returned (.agg (wv (x <<< n))) ∧ Grew w w' := by
  have hb := fun u v (hv : v < 18446744073709551616) => upl_bits u v (n % 64) (by omega) hv
  have hl := atL_lt x
  have H := Lib.hid hx
  clear hx
  go_enter Try.func17, Try.ntmps17
  go_wp2
  refine wp_loop_rounds 5 ?_
  iterate 4
    rw [rounds_succ]
    go_wp2
    first | refine wp_region_pure_tail_g 19 (by kernel_rfl) (by kernel_rfl) (by intro _ _ _ d _ h; cases d <;> exact h) ?_ | refine wp_region_pure_tail 19 (by kernel_rfl) (by kernel_rfl) (by intro _ _ _ d _ h; cases d <;> exact h) ?_
    simp only [List.take_succ_cons, List.take_zero, List.drop_succ_cons, List.drop_zero]
    repeat (go_big_quiet_step ((go_at_call 35; exact Calls.pure_of (at_any _ _ _))))
    refine wpQuiet_nil ?_
    intro _ hw'
    obtain ⟨δ1, hw''⟩ := hw'
    subst hw''
    go_wp2
  rw [rounds_succ]
  go_wp2
  have HH := up_cells x n H.out
  refine bodyPost_ret (v := .agg (wv (x <<< n))) ?_ rfl ⟨rfl, by repeat (first | exact Grew.refl _ | apply Grew.alloc | apply Grew.grow)⟩
  simp [results, Try.results17, go_sem]
  exact HH

set_option maxRecDepth 100000 in
set_option maxHeartbeats 1600000 in
theorem down_lt (x n : Nat) (hx : x < B256) (w : World) (hi : n < 256) :
    Calls Try.prog 18 #[.agg (wv x), .int .i64 n] w fun e w' => e = .returned (.agg (wv (x >>> n))) ∧ Grew w w' := by
  have hb := fun u v (hu : u < 18446744073709551616) => dnl_bits u v (n % 64) (by omega) hu
  have hl := atL_lt x
  have H := Lib.hid hx
  clear hx
  go_enter Try.func18, Try.ntmps18
  go_wp2
  refine wp_loop_rounds 5 ?_
  iterate 4
    rw [rounds_succ]
    go_wp2
    first | refine wp_region_pure_tail_g 19 (by kernel_rfl) (by kernel_rfl) (by intro _ _ _ d _ h; cases d <;> exact h) ?_ | refine wp_region_pure_tail 19 (by kernel_rfl) (by kernel_rfl) (by intro _ _ _ d _ h; cases d <;> exact h) ?_
    simp only [List.take_succ_cons, List.take_zero, List.drop_succ_cons, List.drop_zero]
    repeat (go_big_quiet_step ((go_at_call 35; exact Calls.pure_of (at_any _ _ _))))
    refine wpQuiet_nil ?_
    intro _ hw'
    obtain ⟨δ1, hw''⟩ := hw'
    subst hw''
    go_wp2
  rw [rounds_succ]
  go_wp2
  have HH := down_cells x n H.out
  refine bodyPost_ret (v := .agg (wv (x >>> n))) ?_ rfl ⟨rfl, by repeat (first | exact Grew.refl _ | apply Grew.alloc | apply Grew.grow)⟩
  simp [results, Try.results18, go_sem]
  exact HH

end Go.Proofs.Ytcoclcbclbjdaaa
