/- target's Work and Level. -/
import Derived.Test.YtipofeefalpjgaaRows
import Derived.Test.YtipofeefalpjgaaWdMore
import Derived.Test.YtipofeefalpjgaaOf32
namespace Go.Proofs.Ytipofeefalpjgaa
set_option linter.unusedVariables false
set_option linter.unusedSimpArgs false
open Go.RowKit

/-- How much work a target takes: how often one more than it goes into 2^256. -/
noncomputable def wk (t : Wd) : Wd := Wd.of (B256 / (t.n + 1))
theorem not_u64 (n : Nat) (h : n < 18446744073709551616) : bits .xor .u64 IntKind.u64.max (n : Int) = ((nt n : Nat) : Int) := by
  have h1 : (BitVec.ofInt 64 (n : Int)).toNat = n := by
    rw [BitVec.ofInt_natCast, BitVec.toNat_ofNat]; exact Nat.mod_eq_of_lt (by omega)
  have e : BitVec.ofInt 64 IntKind.u64.max ^^^ BitVec.ofInt 64 (n : Int) = ~~~ (BitVec.ofInt 64 (n : Int)) := by
    rw [show BitVec.ofInt 64 IntKind.u64.max = BitVec.allOnes 64 from rfl, BitVec.allOnes_xor]
  show IntKind.u64.wrap ((BitVec.ofInt 64 IntKind.u64.max ^^^ BitVec.ofInt 64 (n : Int)).toNat : Int) = _
  rw [e, BitVec.toNat_not, h1, IntKind.wrap_u64]
  unfold nt
  omega
theorem work_num (x : Nat) (h : x + 1 < B256) : (B256 - 1 - x) / (x + 1) + 1 = B256 / (x + 1) := by
  have e : B256 = (B256 - 1 - x) + (x + 1) := by omega
  conv => rhs; rw [e]
  rw [Nat.add_div_right _ (by omega)]

set_option maxRecDepth 100000 in
set_option maxHeartbeats 1600000 in
theorem work_some (t : Wd) (h : t.n + 1 < B256) (w : World) :
    Calls Try.prog 14 #[.agg (wv t.n)] w fun e w' => e = .returned (.agg (wv (wk t).n)) ∧ Grew w w' := by
  have h1 : t.addOk (Wd.of 1) = true := by unfold Wd.addOk; rw [Wd.of_1]; simpa using h
  have n0 : ∀ i, bits .xor .u64 IntKind.u64.max (lb t.n i : Int) = ((nt (lb t.n i) : Nat) : Int) := fun i => not_u64 _ (lb_lt _ _)
  have hs : IntKind.u64.signed = false := rfl
  have hc := not_cells t.n t.lt
  obtain ⟨r, hr⟩ : ∃ r : Wd, r.n = B256 - 1 - t.n := ⟨⟨B256 - 1 - t.n, by have := t.lt; omega⟩, rfl⟩
  rw [← hr] at hc
  have Hf : Hid (((r.div (t.add (Wd.of 1))).add (Wd.of 1)).n = (wk t).n) := by
    refine (?_ : _ = _)
    have e : (t.add (Wd.of 1)).n = t.n + 1 := by rw [Wd.add_ok h1, Wd.of_1]
    rw [Wd.add_n, Wd.div_n, hr, e, Wd.of_1, work_num t.n h]
    unfold wk
    rw [Wd.of_n]
  clear h hr
  go_enter Try.func14, Try.ntmps14
  go_wp2
  first | apply wp_region_env_g [0,1,2,3,4,5] [6,7,8] (by kernel_rfl) (by kernel_rfl) (by kernel_rfl) (by intro _ _ _ d _ h; cases d <;> exact h) _ | apply wp_region_env_p [0,1,2,3,4,5] [6,7,8] (by kernel_rfl) (by kernel_rfl) (by kernel_rfl) (by intro _ _ _ d _ h; cases d <;> exact h) _
  · intro A hA δ'
    simp only [pickOps_cons, pickOps_nil, pick1_zero, pick1_succ]
    repeat (go_big_quiet_step ((first | (go_at_call 19; exact Calls.pure_of_g (of_wd _ (by decide) _)) | (go_at_call 20; exact Calls.pure_of_g (add_w _ _ _)))))
    exact wpQuiet_nil hA.out.symm
  simp only [pickOps_cons, pickOps_nil, pick1_zero, pick1_succ]
  refine wpEnv_step ?_
  intro δe0
  go_wp2
  refine ⟨(by repeat (first | with_reducible exact grows_self _ _ | with_reducible apply grows_alloc | with_reducible apply grows_grow | with_reducible apply grows_drew | with_reducible exact grows_none _)), ?_⟩
  refine wpEnv_step ?_
  intro δe1
  go_wp2
  refine ⟨(by repeat (first | with_reducible exact grows_self _ _ | with_reducible apply grows_alloc | with_reducible apply grows_grow | with_reducible apply grows_drew | with_reducible exact grows_none _)), ?_⟩
  refine wpEnv_step ?_
  intro δe2
  go_wp2
  refine ⟨(by repeat (first | with_reducible exact grows_self _ _ | with_reducible apply grows_alloc | with_reducible apply grows_grow | with_reducible apply grows_drew | with_reducible exact grows_none _)), ?_⟩
  refine wpEnv_end ?_
  intro δ1
  try simp only [grow_grow]
  go_wp2_with (go_at_call 21; refine (div_w r _ _).mono ?_; rintro e w' ⟨rfl, δ, rfl⟩)
  first | refine wp_region_pure_tail_g 6 (by kernel_rfl) (by kernel_rfl) (by intro _ _ _ d _ h; cases d <;> exact h) ?_ | refine wp_region_pure_tail 6 (by kernel_rfl) (by kernel_rfl) (by intro _ _ _ d _ h; cases d <;> exact h) ?_
  simp only [List.take_succ_cons, List.take_zero, List.drop_succ_cons, List.drop_zero]
  repeat (go_big_quiet_step ((first | (go_at_call 19; exact Calls.pure_of (of_wd _ (by decide) _)) | (go_at_call 20; exact Calls.pure_of (add_w _ _ _)))))
  refine wpQuiet_nil ?_
  intro _ hw'
  obtain ⟨δ1, hw''⟩ := hw'
  subst hw''
  go_wp2
  refine bodyPost_ret (v := .agg (wv (wk t).n)) ?_ rfl ⟨rfl, (by repeat (first | with_reducible exact Grew.refl _ | with_reducible apply Grew.alloc | with_reducible apply Grew.grow | with_reducible apply Grew.drew | with_reducible apply Grew.drewN))⟩
  simp [results, Try.results14, go_sem]
  rw [Hf.out]

set_option maxRecDepth 100000 in
set_option maxHeartbeats 1600000 in
theorem work_last (t : Wd) (h : t.n + 1 = B256) (w : World) :
    Calls Try.prog 14 #[.agg (wv t.n)] w fun e w' => e = .returned (.agg (wv (wk t).n)) ∧ Grew w w' := by
  have h1 : t.addOk (Wd.of 1) = false := by unfold Wd.addOk; rw [Wd.of_1, h]; simp
  have Hf : Hid ((Wd.of 1).n = (wk t).n) := by
    refine (?_ : _ = _)
    unfold wk
    rw [h, Nat.div_self b256_pos]
  clear h
  go_enter Try.func14, Try.ntmps14
  go_wp2
  first | apply wp_region_env_g [0,1,2,3,4,5] [6,7,8] (by kernel_rfl) (by kernel_rfl) (by kernel_rfl) (by intro _ _ _ d _ h; cases d <;> exact h) _ | apply wp_region_env_p [0,1,2,3,4,5] [6,7,8] (by kernel_rfl) (by kernel_rfl) (by kernel_rfl) (by intro _ _ _ d _ h; cases d <;> exact h) _
  · intro A hA δ'
    simp only [pickOps_cons, pickOps_nil, pick1_zero, pick1_succ]
    repeat (go_big_quiet_step ((first | (go_at_call 19; exact Calls.pure_of_g (of_wd _ (by decide) _)) | (go_at_call 20; exact Calls.pure_of_g (add_w _ _ _)))))
    exact wpQuiet_nil hA.out.symm
  simp only [pickOps_cons, pickOps_nil, pick1_zero, pick1_succ]
  refine wpEnv_step ?_
  intro δe0
  go_wp2
  refine ⟨(by repeat (first | with_reducible exact grows_self _ _ | with_reducible apply grows_alloc | with_reducible apply grows_grow | with_reducible apply grows_drew | with_reducible exact grows_none _)), ?_⟩
  refine wpEnv_step ?_
  intro δe1
  go_wp2
  refine ⟨(by repeat (first | with_reducible exact grows_self _ _ | with_reducible apply grows_alloc | with_reducible apply grows_grow | with_reducible apply grows_drew | with_reducible exact grows_none _)), ?_⟩
  refine wpEnv_step ?_
  intro δe2
  go_wp2
  refine ⟨(by repeat (first | with_reducible exact grows_self _ _ | with_reducible apply grows_alloc | with_reducible apply grows_grow | with_reducible apply grows_drew | with_reducible exact grows_none _)), ?_⟩
  refine wpEnv_end ?_
  intro δ1
  try simp only [grow_grow]
  go_wp2_with (go_at_call 19; refine (of_wd _ (by decide) _).mono ?_; rintro e w' ⟨rfl, δ, rfl⟩)
  refine bodyPost_ret (v := .agg (wv (wk t).n)) ?_ rfl ⟨rfl, (by repeat (first | with_reducible exact Grew.refl _ | with_reducible apply Grew.alloc | with_reducible apply Grew.grow | with_reducible apply Grew.drew | with_reducible apply Grew.drewN))⟩
  simp [results, Try.results14, go_sem]
  rw [Hf.out]
theorem work_w (t : Wd) (w : World) :
    Calls Try.prog 14 #[.agg (wv t.n)] w fun e w' => e = .returned (.agg (wv (wk t).n)) ∧ Grew w w' := by
  have := t.lt
  by_cases h : t.n + 1 < B256
  · exact work_some t h w
  · exact work_last t (by omega) w

set_option maxRecDepth 100000 in
set_option maxHeartbeats 1600000 in
theorem above_w (n t : Wd) (k : Int) (p q : Nat) (w : World) (h1 : w.rowAt p = wv n.n) (h2 : w.rowAt q = wv t.n) :
    Calls Try.prog 30 #[.int .i64 k, .pointer (some ⟨p, 0, none⟩), .pointer (some ⟨q, 0, none⟩)] w fun e w' => e = .returned (.bool (decide (0 < n.cmp (t.down k)))) ∧ Grew w w' := by
  have c1 : ∀ i, w.cell? ⟨p, i, none⟩ = (wv n.n)[i]? := fun i => by rw [← h1]; exact cell_rowAt w p i
  have c2 : ∀ i, w.cell? ⟨q, i, none⟩ = (wv t.n)[i]? := fun i => by rw [← h2]; exact cell_rowAt w q i
  have l1 := row_lt w (n := 3) (g := p) (by rw [h1]; rfl)
  have l2 := row_lt w (n := 3) (g := q) (by rw [h2]; rfl)
  clear h1 h2
  go_enter Try.func30, Try.ntmps30
  go_wp2
  first | refine wp_region_pure_lit_g (by kernel_rfl) (by kernel_rfl) ?_ | refine wp_region_pure_lit (by kernel_rfl) (by kernel_rfl) ?_
  repeat (go_big_quiet_step ((first | (go_at_call 23; exact Calls.pure_of (down_w _ _ _)) | (go_at_call 18; exact Calls.pure_of (cmp_w _ _ _)))))
  refine wpQuiet_nil ?_
  intro _ hw'
  obtain ⟨δ1, hw''⟩ := hw'
  subst hw''
  go_wp2
  go_ret
  exact ⟨rfl, (by repeat (first | with_reducible exact Grew.refl _ | with_reducible apply Grew.alloc | with_reducible apply Grew.grow | with_reducible apply Grew.drew | with_reducible apply Grew.drewN))⟩
end Go.Proofs.Ytipofeefalpjgaa
