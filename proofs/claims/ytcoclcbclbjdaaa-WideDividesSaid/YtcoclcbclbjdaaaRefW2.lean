/- The document's Sub, Up, Down. -/
import Derived.Test.YtcoclcbclbjdaaaRows
import Derived.Test.YtcoclcbclbjdaaaRefW1
namespace Go.Proofs.Ytcoclcbclbjdaaa
set_option linter.unusedVariables false
set_option linter.unusedSimpArgs false
open Go.RowKit

theorem nt_eq (n : Nat) (h : n < 18446744073709551616) : (18446744073709551615 : Int) - (n : Int) = ((nt n : Nat) : Int) := by unfold nt; omega
set_option maxRecDepth 100000 in
set_option maxHeartbeats 1600000 in
theorem rsub_w (a b : Wd) (w : World) :
    Calls Try.prog 22 #[.agg (wv a.n), .agg (wv b.n)] w fun e w' => e = .returned (.tuple #[.agg (wv (a.sub b).n), .bool (a.subOk b)]) ∧ Grew w w' := by
  have hc := not_cells b.n b.lt
  obtain ⟨r, hr⟩ : ∃ r : Wd, r.n = B256 - 1 - b.n := ⟨⟨B256 - 1 - b.n, by have := b.lt; omega⟩, rfl⟩
  rw [← hr] at hc
  have n0 := nt_eq (lb b.n 0) (lb_lt _ _)
  have n1 := nt_eq (lb b.n 1) (lb_lt _ _)
  have n2 := nt_eq (lb b.n 2) (lb_lt _ _)
  have n3 := nt_eq (lb b.n 3) (lb_lt _ _)
  have b0 := lb_lt b.n 0
  have b1 := lb_lt b.n 1
  have b2 := lb_lt b.n 2
  have b3 := lb_lt b.n 3
  have hg : decide (0 ≤ a.cmp b) = a.subOk b := Wd.cmp_ge a b
  have Hf : Hid (((a.add r).add (Wd.of 1)).n = (a.sub b).n) := by
    refine (?_ : _ = _)
    have ha := a.lt; have hb := b.lt
    rw [Wd.add_n, Wd.add_n, Wd.sub_n, hr, Wd.of_1]
    unfold B256 at *
    omega
  clear hr
  go_enter Try.func22, Try.ntmps22
  go_wp2
  refine wp_loop_rounds 5 ?_
  iterate 4
    rw [rounds_succ]
    go_wp2
  rw [rounds_succ]
  go_wp2_with (go_at_call 21; refine (radd_w _ r _).mono ?_; rintro e w' ⟨rfl, δ, rfl⟩)
  first | apply wp_region_env_g [0,1,2,3,4,5] [6,7,8] (by kernel_rfl) (by kernel_rfl) (by kernel_rfl) (by intro _ _ _ d _ h; cases d <;> exact h) _ | apply wp_region_env_p [0,1,2,3,4,5] [6,7,8] (by kernel_rfl) (by kernel_rfl) (by kernel_rfl) (by intro _ _ _ d _ h; cases d <;> exact h) _
  · intro A hA δ'
    simp only [pickOps_cons, pickOps_nil, pick1_zero, pick1_succ]
    repeat (go_big_quiet_step ((first | (go_at_call 28; exact Calls.pure_of_g (rof_w _ (by decide) _)) | (go_at_call 21; exact Calls.pure_of_g (radd_w _ _ _)))))
    exact wpQuiet_nil hA.out.symm
  simp only [pickOps_cons, pickOps_nil, pick1_zero, pick1_succ]
  refine wpEnv_step ?_
  intro δe0
  go_wp2
  refine ⟨(by repeat (first | with_reducible exact grows_self _ _ | with_reducible apply grows_alloc | with_reducible apply grows_grow | with_reducible apply grows_drew | with_reducible exact grows_none _)), ?_⟩
  refine wpEnv_step ?_
  intro δe1
  go_wp2
  refine ⟨(by repeat (first | with_reducible exact grows_self _ _ | with_reducible apply grows_alloc | with_reducible apply grows_grow | with_reducible apply grows_drew | with_reducible exact grows_none _)), ?_⟩
  refine wpEnv_step ?_
  intro δe2
  go_wp2
  refine ⟨(by repeat (first | with_reducible exact grows_self _ _ | with_reducible apply grows_alloc | with_reducible apply grows_grow | with_reducible apply grows_drew | with_reducible exact grows_none _)), ?_⟩
  refine wpEnv_end ?_
  intro δ1
  try simp only [grow_grow]
  go_wp2
  first | apply wp_region_store_g [0,1,2,3,4] [5,6] (by kernel_rfl) (by kernel_rfl) (by kernel_rfl) (by intro _ _ _ d _ h; cases d <;> exact h) _ | apply wp_region_store_p [0,1,2,3,4] [5,6] (by kernel_rfl) (by kernel_rfl) (by kernel_rfl) (by intro _ _ _ d _ h; cases d <;> exact h) _
  · intro A hA δ'
    simp only [pickOps_cons, pickOps_nil, pick1_zero, pick1_succ]
    repeat (go_big_quiet_step ((go_at_call 27; exact Calls.pure_of_g (rcmp_w _ _ _))))
    exact wpQuiet_nil hA.out.symm
  simp only [pickOps_cons, pickOps_nil, pick1_zero, pick1_succ]
  refine wpEnv_step ?_
  intro δe0
  go_wp2
  refine ⟨(by first | with_reducible exact twoW_right _ _ _ | with_reducible exact twoW_self _ _ | (simp only [grow_grow]; exact twoW_right _ _ _)), ?_⟩
  refine wpEnv_step ?_
  intro δe1
  go_wp2
  refine ⟨(by first | with_reducible exact twoW_right _ _ _ | with_reducible exact twoW_self _ _ | (simp only [grow_grow]; exact twoW_right _ _ _)), ?_⟩
  refine wpEnv_end ?_
  intro δ1
  try simp only [grow_grow]
  rotate_left
  · intro A hA δ'
    simp only [pickOps_cons, pickOps_nil, pick1_zero, pick1_succ]
    repeat (go_big_quiet_step ((go_at_call 27; exact Calls.pure_of_g (rcmp_w _ _ _))))
    exact wpQuiet_nil hA.out.symm
  go_wp2
  refine bodyPost_ret (v := .tuple #[.agg (wv (a.sub b).n), .bool (a.subOk b)]) ?_ rfl ⟨rfl, (by repeat (first | with_reducible exact Grew.refl _ | with_reducible apply Grew.alloc | with_reducible apply Grew.grow | with_reducible apply Grew.drew | with_reducible apply Grew.drewN))⟩
  simp [results, Try.results22, go_sem]
  rw [Hf.out]

theorem grow_alloc' (X : World) (δ : Junk) (o : Obj) : (X.grow δ).alloc o = X.grow ⟨δ.objs ++ #[o], δ.drawn⟩ := by rw [alloc_is_grow, grow_grow]; rfl
theorem Wd.up_0 (a : Wd) : (a.up 0).n = a.n := by
  have := a.up_n 0
  rw [show ((0 : Nat) : Int) = 0 from rfl, Nat.shiftLeft_zero, Nat.mod_eq_of_lt a.lt] at this
  exact this
theorem Wd.up_succ (a : Wd) (k : Nat) : ((a.up k).add (a.up k)).n = (a.up ((k : Int) + 1)).n := by
  rw [show (k : Int) + 1 = ((k + 1 : Nat) : Int) by omega, Wd.add_n, Wd.up_n, Wd.up_n, Nat.shiftLeft_succ, ← Nat.add_mod, Nat.two_mul]
theorem Wd.up_256 (a : Wd) (n : Int) (h : 256 ≤ n) : (a.up n).n = 0 := by
  obtain ⟨k, rfl⟩ := Int.eq_ofNat_of_zero_le (show 0 ≤ n by omega)
  have := up_big a.n k (by omega)
  rw [Wd.up_n]
  have h2 := wv_inj.1 this
  simpa using h2
theorem Wd.up_neg (a : Wd) (n : Int) (h : n < 0) : a.up n = a := by unfold Wd.up; rw [if_pos h]
theorem Wd.down_0 (a : Wd) : (a.down 0).n = a.n := by
  have := a.down_n 0
  rw [show ((0 : Nat) : Int) = 0 from rfl, Nat.shiftRight_zero] at this
  exact this
theorem Wd.down_succ (a : Wd) (k : Nat) : ((a.down k).down 1).n = (a.down ((k : Int) + 1)).n := by
  rw [show (k : Int) + 1 = ((k + 1 : Nat) : Int) by omega, show (1 : Int) = ((1 : Nat) : Int) from rfl, Wd.down_n, Wd.down_n, Wd.down_n, Nat.shiftRight_add]
theorem Wd.down_256 (a : Wd) (n : Int) (h : 256 ≤ n) : (a.down n).n = 0 := by
  obtain ⟨k, rfl⟩ := Int.eq_ofNat_of_zero_le (show 0 ≤ n by omega)
  rw [Wd.down_n]; exact down_big _ _ a.lt (by omega)
theorem Wd.down_neg (a : Wd) (n : Int) (h : n < 0) : a.down n = a := by unfold Wd.down; rw [if_pos h]

set_option maxRecDepth 100000 in
set_option maxHeartbeats 1600000 in
theorem rup_w (a : Wd) (n : Int) (w : World) :
    Calls Try.prog 23 #[.agg (wv a.n), .int .i64 n] w fun e w' => e = .returned (.agg (wv (a.up n).n)) ∧ Grew w w' := by
  by_cases hb : 256 ≤ n
  · have Hf := Lib.hid (a.up_256 n hb)
    have hd : decide (256 ≤ n) = true := decide_eq_true hb
    clear hb
    go_enter Try.func23, Try.ntmps23
    go_wp2
    refine bodyPost_ret (v := .agg (wv (a.up n).n)) ?_ rfl ⟨rfl, (by repeat (first | with_reducible exact Grew.refl _ | with_reducible apply Grew.alloc | with_reducible apply Grew.grow | with_reducible apply Grew.drew | with_reducible apply Grew.drewN))⟩
    simp [results, Try.results23, go_sem]
    rw [Hf.out]; rfl
  · have hd : decide (256 ≤ n) = false := decide_eq_false hb
    have hm : n.toNat < 256 := by omega
    obtain ⟨m, hmn⟩ : ∃ m : Nat, m = n.toNat := ⟨_, rfl⟩
    have Hm := Lib.hid hmn
    have h0 := Lib.hid (Wd.up_0 a)
    have Hf : Hid ((a.up m).n = (a.up n).n) := by
      refine (?_ : _ = _)
      by_cases hneg : n < 0
      · rw [a.up_neg n hneg, hmn, show n.toNat = 0 by omega]; exact a.up_0
      · rw [hmn, show ((n.toNat : Nat) : Int) = n by omega]
    rw [← hmn] at hm
    clear hb hmn
    go_enter Try.func23, Try.ntmps23
    go_wp2
    go_loopw [5] (fun v wr => ∃ (k : Nat) (δ : Junk), k ≤ m ∧ v = .int .i64 k ∧
      wr = ((w.alloc (.cells (wv (a.up k).n) 24)).alloc (.cells #[.int .u64 0, .int .u64 0, .int .u64 0, .int .u64 0] 24)).grow δ) (fun v _ => m - (intOf v).toNat)
    case atStart => exact ⟨0, ⟨#[], w.drawn⟩, by omega, rfl, by rw [show (((0 : Nat) : Int)) = 0 from rfl, h0.out]; exact (grow_self _).symm⟩
    case round =>
      obtain ⟨k, δ, hk, rfl, rfl⟩ := hrel
      have hs := Wd.up_succ a k
      by_cases hn : k < m
      · have hlt : decide ((k : Int) < n) = true := decide_eq_true (by have := Hm.out; omega)
        clear Hf
        go_wp2_with (go_at_call 21; refine (radd_w _ _ _).mono ?_; rintro e w' ⟨rfl, δ, rfl⟩)
        exact ⟨⟨k + 1, _, by omega, by go_num, by rw [show ((k + 1 : Nat) : Int) = (k : Int) + 1 by omega]; exact grow_alloc' _ _ _⟩, by simp only [intOf]; omega⟩
      · have hlt : decide ((k : Int) < n) = false := decide_eq_false (by have := Hm.out; omega)
        obtain rfl : k = m := by omega
        clear hs
        go_wp2
        refine bodyPost_ret (v := .agg (wv (a.up n).n)) ?_ rfl ⟨rfl, (by repeat (first | with_reducible exact Grew.refl _ | with_reducible apply Grew.alloc | with_reducible apply Grew.grow | with_reducible apply Grew.drew | with_reducible apply Grew.drewN))⟩
        simp [results, Try.results23, go_sem]
        rw [Hf.out]

set_option maxRecDepth 100000 in
set_option maxHeartbeats 1600000 in
theorem rdown_w (a : Wd) (n : Int) (w : World) :
    Calls Try.prog 24 #[.agg (wv a.n), .int .i64 n] w fun e w' => e = .returned (.agg (wv (a.down n).n)) ∧ Grew w w' := by
  by_cases hb : 256 ≤ n
  · have Hf := Lib.hid (a.down_256 n hb)
    have hd : decide (256 ≤ n) = true := decide_eq_true hb
    clear hb
    go_enter Try.func24, Try.ntmps24
    go_wp2
    refine bodyPost_ret (v := .agg (wv (a.down n).n)) ?_ rfl ⟨rfl, (by repeat (first | with_reducible exact Grew.refl _ | with_reducible apply Grew.alloc | with_reducible apply Grew.grow | with_reducible apply Grew.drew | with_reducible apply Grew.drewN))⟩
    simp [results, Try.results24, go_sem]
    rw [Hf.out]; rfl
  · have hd : decide (256 ≤ n) = false := decide_eq_false hb
    have hm : n.toNat < 256 := by omega
    obtain ⟨m, hmn⟩ : ∃ m : Nat, m = n.toNat := ⟨_, rfl⟩
    have Hm := Lib.hid hmn
    have h0 := Lib.hid (Wd.down_0 a)
    have Hf : Hid ((a.down m).n = (a.down n).n) := by
      refine (?_ : _ = _)
      by_cases hneg : n < 0
      · rw [a.down_neg n hneg, hmn, show n.toNat = 0 by omega]; exact a.down_0
      · rw [hmn, show ((n.toNat : Nat) : Int) = n by omega]
    rw [← hmn] at hm
    clear hb hmn
    go_enter Try.func24, Try.ntmps24
    go_wp2
    go_loopw [5] (fun v wr => ∃ (k : Nat) (δ : Junk), k ≤ m ∧ v = .int .i64 k ∧
      wr = ((w.alloc (.cells (wv (a.down k).n) 24)).alloc (.cells #[.int .u64 0, .int .u64 0, .int .u64 0, .int .u64 0] 24)).grow δ) (fun v _ => m - (intOf v).toNat)
    case atStart => exact ⟨0, ⟨#[], w.drawn⟩, by omega, rfl, by rw [show (((0 : Nat) : Int)) = 0 from rfl, h0.out]; exact (grow_self _).symm⟩
    case round =>
      obtain ⟨k, δ, hk, rfl, rfl⟩ := hrel
      have hs := Wd.down_succ a k
      by_cases hn : k < m
      · have hlt : decide ((k : Int) < n) = true := decide_eq_true (by have := Hm.out; omega)
        clear Hf
        go_wp2_with (go_at_call 36; refine (half_w _ _).mono ?_; rintro e w' ⟨rfl, δ, rfl⟩)
        exact ⟨⟨k + 1, _, by omega, by go_num, by rw [show ((k + 1 : Nat) : Int) = (k : Int) + 1 by omega]⟩, by simp only [intOf]; omega⟩
      · have hlt : decide ((k : Int) < n) = false := decide_eq_false (by have := Hm.out; omega)
        obtain rfl : k = m := by omega
        clear hs
        go_wp2
        refine bodyPost_ret (v := .agg (wv (a.down n).n)) ?_ rfl ⟨rfl, (by repeat (first | with_reducible exact Grew.refl _ | with_reducible apply Grew.alloc | with_reducible apply Grew.grow | with_reducible apply Grew.drew | with_reducible apply Grew.drewN))⟩
        simp [results, Try.results24, go_sem]
        rw [Hf.out]
end Go.Proofs.Ytcoclcbclbjdaaa
