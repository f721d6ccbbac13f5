/- wide's Div. -/
import Derived.Test.YtcoclcbclbjdaaaRows
import Derived.Test.YtcoclcbclbjdaaaWide6
import Derived.Test.YtcoclcbclbjdaaaDivMath
import Derived.Test.YtcoclcbclbjdaaaEnv
namespace Go.Proofs.Ytcoclcbclbjdaaa
set_option linter.unusedVariables false
set_option linter.unusedSimpArgs false
open Go.RowKit

set_option maxRecDepth 100000 in
set_option maxHeartbeats 1600000 in
theorem div_nil (x : Nat) (w : World) :
    Calls Try.prog 11 #[.agg (wv x), .agg (wv 0)] w fun e w' => e = .returned (.tuple #[.agg (wv 0), .agg (wv 0), .bool false]) ∧ Grew w w' := by
  have h0 : weq 0 0 = true := rfl
  go_enter Try.func11, Try.ntmps11
  go_wp2
  refine bodyPost_ret (v := .tuple #[.agg (wv 0), .agg (wv 0), .bool false]) ?_ rfl ⟨rfl, (by repeat (first | with_reducible exact Grew.refl _ | with_reducible apply Grew.alloc | with_reducible apply Grew.grow | with_reducible apply Grew.drew | with_reducible apply Grew.drewN))⟩
  simp [results, Try.results11, go_sem]
  rfl

theorem or_pow (u s : Nat) (hu : u < 18446744073709551616) (hs : s < 64) : bits .or .u64 (u : Int) (IntKind.u64.wrap (2 ^ s)) = ((u ||| 2 ^ s : Nat) : Int) := by
  have h1 : 2 ^ s < 18446744073709551616 := by have := Nat.pow_lt_pow_right (a := 2) (by decide) hs; omega
  have e1 : IntKind.u64.wrap (2 ^ s) = ((2 ^ s : Nat) : Int) := by
    rw [IntKind.wrap_u64, show ((2 : Int) ^ s) = ((2 ^ s : Nat) : Int) by simp]
    generalize 2 ^ s = m at *
    omega
  rw [e1, bits_or_u64 _ _ hu h1]

theorem div_start (x y : Nat) (hy0 : y ≠ 0) : x < y * 2 ^ ((bl x : Int) - bl y + 1).toNat := by
  have h1 := bl_lt x
  have h2 := bl_ge y hy0
  have h3 := bl_pos y hy0
  rcases Nat.lt_or_ge (bl x) (bl y) with h | h
  · rw [show ((bl x : Int) - bl y + 1).toNat = 0 by omega]
    have : 2 ^ bl x ≤ 2 ^ (bl y - 1) := Nat.pow_le_pow_right (by decide) (by omega)
    omega
  · have e : bl x = (bl y - 1) + ((bl x : Int) - bl y + 1).toNat := by omega
    have h4 : 2 ^ bl x = 2 ^ (bl y - 1) * 2 ^ ((bl x : Int) - bl y + 1).toNat := by rw [← Nat.pow_add, ← e]
    have h5 := Nat.mul_le_mul_right (2 ^ ((bl x : Int) - bl y + 1).toNat) h2
    omega

set_option maxRecDepth 100000 in
set_option maxHeartbeats 1600000 in
theorem div_some (x y : Nat) (hx : x < B256) (hy : y < B256) (hy0 : y ≠ 0) (w : World) :
    Calls Try.prog 11 #[.agg (wv x), .agg (wv y)] w fun e w' => e = .returned (.tuple #[.agg (wv (x / y)), .agg (wv (x % y)), .bool true]) ∧ Grew w w' := by
  have h0 : weq y 0 = false := by rw [weq_lt hy (by decide)]; simpa using hy0
  have b1 := bl_le x hx
  have b2 := bl_le y hy
  have Hx := Lib.hid hx
  have Hy := Lib.hid hy
  have Hz := Lib.hid hy0
  clear hx hy hy0
  go_enter Try.func11, Try.ntmps11
  go_wp2
  first | refine wp_region_pure_lit_g (by kernel_rfl) (by kernel_rfl) ?_ | refine wp_region_pure_lit (by kernel_rfl) (by kernel_rfl) ?_
  repeat (go_big_quiet_step ((go_at_call 29; exact Calls.pure_of (long_any _ (by first | exact Hx.out | exact Hy.out) _))))
  refine wpQuiet_nil ?_
  intro _ hw'
  obtain ⟨δ1, hw''⟩ := hw'
  subst hw''
  go_wp2
  go_loopw [8] (fun n wr => ∃ (k : Int) (q r : Nat) (δ : Junk), n = .int .i64 k ∧
      wr = (((((w.alloc (.cells (wv r) 24)).alloc (.cells (wv y) 24)).alloc (.cells #[.int .u64 0, .int .u64 0, .int .u64 0, .int .u64 0] 24)).alloc (.cells #[.int .u64 0, .int .u64 0, .int .u64 0, .int .u64 0] 24)).alloc (.cells (wv q) 24)).grow δ ∧
      x = q * y + r ∧ r < y * 2 ^ (k + 1).toNat ∧ q % 2 ^ (k + 1).toNat = 0 ∧ k + bl y ≤ 256) (fun n _ => (intOf n + 1).toNat)
  case atStart =>
    refine ⟨_, 0, x, δ1, rfl, rfl, by omega, div_start x y Hz.out, Nat.zero_mod _, by omega⟩
  case round =>
    obtain ⟨k, q, r, δ, rfl, rfl, hxq, hr, hq, hk⟩ := hrel
    by_cases hn : 0 ≤ k
    · obtain ⟨n, rfl⟩ := Int.eq_ofNat_of_zero_le hn
      rw [show ((n : Int) + 1).toNat = n + 1 by omega] at hr hq
      have hu : y <<< n < B256 := div_up y n (bl y) (bl_lt y) (by omega)
      have hn' : n < 256 := by have := bl_pos y Hz.out; omega
      have hrx : r < B256 := Nat.lt_of_le_of_lt (by omega) Hx.out
      have HU := Lib.hid hu
      have HR := Lib.hid hrx
      have HXQ := Lib.hid hxq
      have HRR := Lib.hid hr
      have HQ := Lib.hid hq
      clear hu hrx hxq hr hq hn
      by_cases hle : y <<< n ≤ r
      · have hd : decide (y <<< n ≤ r) = true := by simpa using hle
        have he : wv (r + B256 - y <<< n) = wv (r - y <<< n) := by
          rw [wv_inj, show r + B256 - y <<< n = r - y <<< n + B256 by omega, Nat.add_mod_right]
        have HY := Lib.hid (div_yes x y q r n HXQ.out HRR.out HQ.out hle)
        have hq1 : (wv q)[n / 64]? = some (.int .u64 (lb q (n / 64))) := wv_at q (n / 64) (by omega)
        have hq2 : bits .or .u64 (lb q (n / 64) : Nat) (IntKind.u64.wrap (2 ^ (n % 64))) = ((lb q (n / 64) ||| 2 ^ (n % 64) : Nat) : Int) := or_pow _ _ (lb_lt _ _) (by omega)
        have hq3 := wv_or q n hn' HQ.out
        clear hle
        go_wp2
        first | apply wp_region_env_g [0,1,2,3,4,5,6,7] [8,9,10] (by kernel_rfl) (by kernel_rfl) (by kernel_rfl) (by intro _ _ _ d _ h; cases d <;> exact h) _ | apply wp_region_env_p [0,1,2,3,4,5,6,7] [8,9,10] (by kernel_rfl) (by kernel_rfl) (by kernel_rfl) (by intro _ _ _ d _ h; cases d <;> exact h) _
        · intro A hA δ'
          simp only [pickOps_cons, pickOps_nil, pick1_zero, pick1_succ]
          repeat (go_big_quiet_step ((first | (go_at_call 17; exact Calls.pure_of_g (up_lt _ _ Hy.out _ (by omega))) | (go_at_call 15; exact Calls.pure_of_g (sub_any _ _ HR.out HU.out _)))))
          exact wpQuiet_nil hA.out.symm
        simp only [pickOps_cons, pickOps_nil, pick1_zero, pick1_succ]
        refine wpEnv_step ?_
        intro δe0
        go_wp2
        refine ⟨(by repeat (first | with_reducible exact grows_self _ _ | with_reducible apply grows_alloc | with_reducible apply grows_grow | with_reducible apply grows_drew | with_reducible exact grows_none _)), ?_⟩
        refine wpEnv_step ?_
        intro δe1
        go_wp2
        refine ⟨(by repeat (first | with_reducible exact grows_self _ _ | with_reducible apply grows_alloc | with_reducible apply grows_grow | with_reducible apply grows_drew | with_reducible exact grows_none _)), ?_⟩
        refine wpEnv_step ?_
        intro δe2
        go_wp2
        refine ⟨(by repeat (first | with_reducible exact grows_self _ _ | with_reducible apply grows_alloc | with_reducible apply grows_grow | with_reducible apply grows_drew | with_reducible exact grows_none _)), ?_⟩
        refine wpEnv_end ?_
        intro δ1
        try simp only [grow_grow]
        go_wp2
        first | refine wp_region_pure_tail_g 9 (by kernel_rfl) (by kernel_rfl) (by intro _ _ _ d _ h; cases d <;> exact h) ?_ | refine wp_region_pure_tail 9 (by kernel_rfl) (by kernel_rfl) (by intro _ _ _ d _ h; cases d <;> exact h) ?_
        simp only [List.take_succ_cons, List.take_zero, List.drop_succ_cons, List.drop_zero]
        repeat (go_big_quiet_step ((fail)))
        refine wpQuiet_nil ?_
        intro _ hw'
        obtain ⟨δ1, hw''⟩ := hw'
        subst hw''
        go_wp2
        obtain ⟨a1, a2, a3⟩ := HY.out
        exact ⟨⟨_, q + 2 ^ n, r - y <<< n, _, rfl, grow_alloc_grow _ _ _ _, a1, by rw [show ((n : Int) - 1 + 1).toNat = n by omega]; exact a2, by rw [show ((n : Int) - 1 + 1).toNat = n by omega]; exact a3, by omega⟩, by simp only [intOf]; omega⟩
      · have hd : decide (y <<< n ≤ r) = false := by simpa using hle
        have HY := Lib.hid (div_no x y q r n HRR.out HQ.out hle)
        clear hle
        go_wp2
        first | apply wp_region_env_g [0,1,2,3,4,5,6,7] [8,9,10] (by kernel_rfl) (by kernel_rfl) (by kernel_rfl) (by intro _ _ _ d _ h; cases d <;> exact h) _ | apply wp_region_env_p [0,1,2,3,4,5,6,7] [8,9,10] (by kernel_rfl) (by kernel_rfl) (by kernel_rfl) (by intro _ _ _ d _ h; cases d <;> exact h) _
        · intro A hA δ'
          simp only [pickOps_cons, pickOps_nil, pick1_zero, pick1_succ]
          repeat (go_big_quiet_step ((first | (go_at_call 17; exact Calls.pure_of_g (up_lt _ _ Hy.out _ (by omega))) | (go_at_call 15; exact Calls.pure_of_g (sub_any _ _ HR.out HU.out _)))))
          exact wpQuiet_nil hA.out.symm
        simp only [pickOps_cons, pickOps_nil, pick1_zero, pick1_succ]
        refine wpEnv_step ?_
        intro δe0
        go_wp2
        refine ⟨(by repeat (first | with_reducible exact grows_self _ _ | with_reducible apply grows_alloc | with_reducible apply grows_grow | with_reducible apply grows_drew | with_reducible exact grows_none _)), ?_⟩
        refine wpEnv_step ?_
        intro δe1
        go_wp2
        refine ⟨(by repeat (first | with_reducible exact grows_self _ _ | with_reducible apply grows_alloc | with_reducible apply grows_grow | with_reducible apply grows_drew | with_reducible exact grows_none _)), ?_⟩
        refine wpEnv_step ?_
        intro δe2
        go_wp2
        refine ⟨(by repeat (first | with_reducible exact grows_self _ _ | with_reducible apply grows_alloc | with_reducible apply grows_grow | with_reducible apply grows_drew | with_reducible exact grows_none _)), ?_⟩
        refine wpEnv_end ?_
        intro δ1
        try simp only [grow_grow]
        go_wp2
        obtain ⟨a2, a3⟩ := HY.out
        exact ⟨⟨_, q, r, _, rfl, grow_alloc_grow _ _ _ _, HXQ.out, by rw [show ((n : Int) - 1 + 1).toNat = n by omega]; exact a2, by rw [show ((n : Int) - 1 + 1).toNat = n by omega]; exact a3, by omega⟩, by simp only [intOf]; omega⟩
    · have HH : q = x / y ∧ r = x % y := by
        refine div_end x y q r hxq ?_
        rcases (show k + 1 ≤ 0 by omega) with h
        rw [show (k + 1).toNat = 0 by omega] at hr
        omega
      obtain ⟨rfl, rfl⟩ := HH
      have hn2 : ¬ (0 ≤ k) := hn
      clear hr hq hxq
      go_wp2
      go_region
      go_wp2
      refine bodyPost_ret (v := .tuple #[.agg (wv (x / y)), .agg (wv (x % y)), .bool true]) ?_ rfl ⟨rfl, (by repeat (first | with_reducible exact Grew.refl _ | with_reducible apply Grew.alloc | with_reducible apply Grew.grow | with_reducible apply Grew.drew | with_reducible apply Grew.drewN))⟩
      simp [results, Try.results11, go_sem]
end Go.Proofs.Ytcoclcbclbjdaaa
