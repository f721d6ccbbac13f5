/- The document's Of32. -/
import Derived.Test.YtcoclcbclbjdaaaRows
import Derived.Test.YtcoclcbclbjdaaaOf32
namespace Go.Proofs.Ytcoclcbclbjdaaa
set_option linter.unusedVariables false
set_option linter.unusedSimpArgs false
open Go.RowKit

set_option maxRecDepth 100000 in
set_option maxHeartbeats 1600000 in
theorem rof32_any (l : List Nat) (hl : l.length = 32) (hc : ∀ c ∈ l, c < 256) (w : World) :
    Calls Try.prog 26 #[.agg (iv l)] w fun e w' => e = .returned (.agg (wv (numB l))) ∧ Grew w w' := by
  have Hl := Lib.hid hl
  have Hc := Lib.hid hc
  clear hc
  go_enter Try.func26, Try.ntmps26
  go_wp2
  go_loopw [4] (fun n wr => ∃ (k : Nat) (δ : Junk), k ≤ 32 ∧ n = .int .i64 k ∧
      wr = (((w.alloc (.cells (iv l) 37)).alloc (.cells #[.int .u64 0, .int .u64 0, .int .u64 0, .int .u64 0] 24)).alloc (.cells (limbs l k) 24)).grow δ) (fun n _ => 32 - (intOf n).toNat)
  case atStart => exact ⟨0, ⟨#[], w.drawn⟩, by omega, rfl, by rw [limbs_start]; exact (grow_self _).symm⟩
  case round =>
    obtain ⟨k, δ, hk, rfl, rfl⟩ := hrel
    by_cases hn : k < 32
    · have hb := byteAt_lt l Hc.out k
      have h1 := limbs_get l k hn
      have h0 := iv_at l k (by omega)
      have hs := limb_small l (8 * (k / 8)) k (by omega) (by omega) Hc.out (by omega)
      have h2 : (256 : Int) * (limb l (8 * (k / 8)) k : Int) + (byteAt l k : Int) = ((stepN (limb l (8 * (k / 8)) k) (byteAt l k) : Nat) : Int) := by unfold stepN; omega
      have h3 : (limbs l k).setIfInBounds (3 - k / 8) (.int .u64 ((stepN (limb l (8 * (k / 8)) k) (byteAt l k) : Nat) : Int)) = limbs l (k + 1) := limbs_set l k hn hl _ (by unfold stepN; rw [byteAt_eq l k (by omega)])
      go_wp2
      first | refine wp_region_pure_tail_g 11 (by kernel_rfl) (by kernel_rfl) (by intro _ _ _ d _ h; cases d <;> exact h) ?_ | refine wp_region_pure_tail 11 (by kernel_rfl) (by kernel_rfl) (by intro _ _ _ d _ h; cases d <;> exact h) ?_
      simp only [List.take_succ_cons, List.take_zero, List.drop_succ_cons, List.drop_zero]
      repeat (go_big_quiet_step ((fail)))
      refine wpQuiet_nil ?_
      intro _ hw'
      obtain ⟨δ1, hw''⟩ := hw'
      subst hw''
      go_wp2
      exact ⟨⟨k + 1, _, by omega, by go_num, rfl⟩, by simp only [intOf]; omega⟩
    · obtain rfl : k = 32 := by omega
      rw [limbs_end l Hl.out Hc.out]
      go_wp2
      refine bodyPost_ret (v := .agg (wv (numB l))) ?_ rfl ⟨rfl, (by repeat (first | with_reducible exact Grew.refl _ | with_reducible apply Grew.alloc | with_reducible apply Grew.grow | with_reducible apply Grew.drew | with_reducible apply Grew.drewN))⟩
      simp [results, Try.results26, go_sem]
theorem rof32_i (a : Idb) (w : World) :
    Calls Try.prog 26 #[.agg (iv a.l)] w fun e w' => e = .returned (.agg (wv a.w.n)) ∧ Grew w w' := by
  rw [Idb.w_n]; exact rof32_any a.l a.len a.lt w

end Go.Proofs.Ytcoclcbclbjdaaa
