/- What the statements of this chapter rest on, part 5. Conditions: none. -/
import Derived.Test.YtommbfgagalckaaRows
import Derived.Deep.Slices
import Derived.Deep.Fields
import Derived.Laws.StructEq
import Derived.Test.YtommbfgagalckaaM4
/- The document's Of32. -/
namespace Go.Proofs.Ytommbfgagalckaa
set_option linter.unusedVariables false
set_option linter.unusedSimpArgs false
open Go.RowKit

set_option maxRecDepth 100000 in
set_option maxHeartbeats 1600000 in
theorem rof32_any (l : List Nat) (hl : l.length = 32) (hc : ∀ c ∈ l, c < 256) (w : World) :
    Calls Try.prog 50 #[.agg (iv l)] w fun e w' => e = .returned (.agg (wv (numB l))) ∧ Grew w w' := by
  have Hl := Lib.hid hl
  have Hc := Lib.hid hc
  clear hc
  go_enter Try.func50, Try.ntmps50
  go_wp2
  go_loopw [4] (fun n wr => ∃ (k : Nat) (δ : Junk), k ≤ 32 ∧ n = .int .i64 k ∧
      wr = (((w.alloc (.cells (iv l) 23)).alloc (.cells #[.int .u64 0, .int .u64 0, .int .u64 0, .int .u64 0] 26)).alloc (.cells (limbs l k) 26)).grow δ) (fun n _ => 32 - (intOf n).toNat)
  case atStart => exact ⟨0, ⟨#[], w.drawn⟩, by omega, rfl, by rw [limbs_start]; exact (grow_self _).symm⟩
  case round =>
    obtain ⟨k, δ, hk, rfl, rfl⟩ := hrel
    by_cases hn : k < 32
    · have hb := byteAt_lt l Hc.out k
      have h1 := limbs_get l k hn
      have h0 := iv_at l k (by omega)
      have hs := limb_small l (8 * (k / 8)) k (by omega) (by omega) Hc.out (by omega)
      have h2 : (256 : Int) * (limb l (8 * (k / 8)) k : Int) + (byteAt l k : Int) = ((stepN (limb l (8 * (k / 8)) k) (byteAt l k) : Nat) : Int) := by unfold stepN; omega
      have h3 : (limbs l k).setIfInBounds (3 - k / 8) (.int .u64 ((stepN (limb l (8 * (k / 8)) k) (byteAt l k) : Nat) : Int)) = limbs l (k + 1) := limbs_set l k hn hl _ (by unfold stepN; rw [byteAt_eq l k (by omega)])
      go_wp2
      first | refine wp_region_pure_tail_g 11 (by kernel_rfl) (by kernel_rfl) (by intro _ _ _ d _ h; cases d <;> exact h) ?_ | refine wp_region_pure_tail 11 (by kernel_rfl) (by kernel_rfl) (by intro _ _ _ d _ h; cases d <;> exact h) ?_
      simp only [List.take_succ_cons, List.take_zero, List.drop_succ_cons, List.drop_zero]
      repeat (go_big_quiet_step ((fail)))
      refine wpQuiet_nil ?_
      intro _ hw'
      obtain ⟨δ1, hw''⟩ := hw'
      subst hw''
      go_wp2
      exact ⟨⟨k + 1, _, by omega, by go_num, rfl⟩, by simp only [intOf]; omega⟩
    · obtain rfl : k = 32 := by omega
      rw [limbs_end l Hl.out Hc.out]
      go_wp2
      refine bodyPost_ret (v := .agg (wv (numB l))) ?_ rfl ⟨rfl, (by repeat (first | with_reducible exact Grew.refl _ | with_reducible apply Grew.alloc | with_reducible apply Grew.grow | with_reducible apply Grew.drew | with_reducible apply Grew.drewN))⟩
      simp [results, Try.results50, go_sem]
theorem rof32_i (a : Idb) (w : World) :
    Calls Try.prog 50 #[.agg (iv a.l)] w fun e w' => e = .returned (.agg (wv a.w.n)) ∧ Grew w w' := by
  rw [Idb.w_n]; exact rof32_any a.l a.len a.lt w

end Go.Proofs.Ytommbfgagalckaa
/- target's Target. -/
namespace Go.Proofs.Ytommbfgagalckaa
set_option linter.unusedVariables false
set_option linter.unusedSimpArgs false
open Go.RowKit

/-- Does a compact number stand for a number? -/
def tgOk (b : Nat) : Bool := decide (3 ≤ b / 16777216 ∧ b / 16777216 ≤ 32 ∧ 32768 ≤ b % 16777216 ∧ b % 16777216 < 8388608)
/-- The number for which it stands. -/
noncomputable def tg (b : Nat) : Wd := if tgOk b then (Wd.of (b % 16777216)).up (8 * (((b / 16777216 : Nat) : Int) - 3)) else .zero

theorem low24 (b : Nat) (h : b < 4294967296) : bits .and .u32 (b : Int) 16777215 = ((b % 16777216 : Nat) : Int) := by
  have h1 : (BitVec.ofInt 32 (b : Int)).toNat = b := by
    rw [BitVec.ofInt_natCast, BitVec.toNat_ofNat]; exact Nat.mod_eq_of_lt (by omega)
  show IntKind.u32.wrap ((BitVec.ofInt 32 (b : Int) &&& BitVec.ofInt 32 16777215).toNat : Int) = _
  rw [BitVec.toNat_and, h1, show (BitVec.ofInt 32 16777215).toNat = 2 ^ 24 - 1 from rfl, Nat.and_two_pow_sub_one_eq_mod]
  have : (b % 2 ^ 24 : Nat) < 4294967296 := by omega
  show ((b % 2 ^ 24 : Nat) : Int) % 4294967296 = _
  omega

set_option maxRecDepth 100000 in
set_option maxHeartbeats 1600000 in
theorem target_bad (b e m : Nat) (hE : ((b : Int) / 16777216) = (e : Int)) (hM : bits .and .u32 (b : Int) 16777215 = (m : Int)) (he : e < 256) (hm : m < 16777216)
    (h : decide ((e : Int) < 3) = true ∨ (decide ((e : Int) < 3) = false ∧ decide (32 < (e : Int)) = true) ∨ (decide ((e : Int) < 3) = false ∧ decide (32 < (e : Int)) = false ∧ decide ((m : Int) < 32768) = true)
      ∨ (decide ((e : Int) < 3) = false ∧ decide (32 < (e : Int)) = false ∧ decide ((m : Int) < 32768) = false ∧ decide (8388608 ≤ (m : Int)) = true)) (w : World) :
    Calls Try.prog 14 #[.int .u32 b] w fun e w' => e = .returned (.tuple #[.agg (wv 0), .bool false]) ∧ Grew w w' := by
  rcases h with h1 | ⟨h1, h2⟩ | ⟨h1, h2, h3⟩ | ⟨h1, h2, h3, h4⟩
  all_goals
    go_enter Try.func14, Try.ntmps14
    go_wp2
    refine bodyPost_ret (v := .tuple #[.agg (wv 0), .bool false]) ?_ rfl ⟨rfl, (by repeat (first | with_reducible exact Grew.refl _ | with_reducible apply Grew.alloc | with_reducible apply Grew.grow | with_reducible apply Grew.drew | with_reducible apply Grew.drewN))⟩
    simp [results, Try.results14, go_sem]
    try rfl

set_option maxRecDepth 100000 in
set_option maxHeartbeats 1600000 in
theorem target_good (b e m : Nat) (hE : ((b : Int) / 16777216) = (e : Int)) (hM : bits .and .u32 (b : Int) 16777215 = (m : Int)) (he : e < 256) (hm : m < 16777216)
    (h1 : decide ((e : Int) < 3) = false) (h2 : decide (32 < (e : Int)) = false) (h3 : decide ((m : Int) < 32768) = false) (h4 : decide (8388608 ≤ (m : Int)) = false) (w : World) :
    Calls Try.prog 14 #[.int .u32 b] w fun e' w' => e' = .returned (.tuple #[.agg (wv ((Wd.of m).up (8 * ((e : Int) - 3))).n), .bool true]) ∧ Grew w w' := by
  have b1 : (3 : Int) ≤ e := by simpa using h1
  go_enter Try.func14, Try.ntmps14
  go_wp2_with (first
    | (go_at_call 19; refine (of_wd _ (by omega) _).mono ?_; rintro e w' ⟨rfl, δ, rfl⟩)
    | (go_at_call 39; refine (up_w _ _ _).mono ?_; rintro e w' ⟨rfl, δ, rfl⟩))
  refine bodyPost_ret (v := .tuple #[.agg (wv ((Wd.of m).up (8 * ((e : Int) - 3))).n), .bool true]) ?_ rfl ⟨rfl, (by repeat (first | with_reducible exact Grew.refl _ | with_reducible apply Grew.alloc | with_reducible apply Grew.grow | with_reducible apply Grew.drew | with_reducible apply Grew.drewN))⟩
  simp [results, Try.results14, go_sem]

theorem target_w (b : Nat) (hb : b < 4294967296) (w : World) :
    Calls Try.prog 14 #[.int .u32 b] w fun e w' => e = .returned (.tuple #[.agg (wv (tg b).n), .bool (tgOk b)]) ∧ Grew w w' := by
  have hE : ((b : Int) / 16777216) = ((b / 16777216 : Nat) : Int) := by omega
  have hM := low24 b hb
  have he : b / 16777216 < 256 := by omega
  have hm : b % 16777216 < 16777216 := Nat.mod_lt _ (by decide)
  unfold tg
  cases hk : tgOk b
  · rw [if_neg (by decide)]
    refine target_bad b _ _ hE hM he hm ?_ w
    unfold tgOk at hk
    generalize b / 16777216 = e at *
    generalize b % 16777216 = m at *
    simp only [decide_eq_false_iff_not, decide_eq_true_eq] at *
    omega
  · rw [if_pos rfl]
    unfold tgOk at hk
    have hk := of_decide_eq_true hk
    refine target_good b _ _ hE hM he hm ?_ ?_ ?_ ?_ w
    all_goals
      generalize b / 16777216 = e at *
      generalize b % 16777216 = m at *
      simp only [decide_eq_false_iff_not]
      omega
end Go.Proofs.Ytommbfgagalckaa
/- target's Work and Level. -/
namespace Go.Proofs.Ytommbfgagalckaa
set_option linter.unusedVariables false
set_option linter.unusedSimpArgs false
open Go.RowKit

/-- How much work a target takes: how often one more than it goes into 2^256. -/
noncomputable def wk (t : Wd) : Wd := Wd.of (B256 / (t.n + 1))
theorem not_u64 (n : Nat) (h : n < 18446744073709551616) : bits .xor .u64 IntKind.u64.max (n : Int) = ((nt n : Nat) : Int) := by
  have h1 : (BitVec.ofInt 64 (n : Int)).toNat = n := by
    rw [BitVec.ofInt_natCast, BitVec.toNat_ofNat]; exact Nat.mod_eq_of_lt (by omega)
  have e : BitVec.ofInt 64 IntKind.u64.max ^^^ BitVec.ofInt 64 (n : Int) = ~~~ (BitVec.ofInt 64 (n : Int)) := by
    rw [show BitVec.ofInt 64 IntKind.u64.max = BitVec.allOnes 64 from rfl, BitVec.allOnes_xor]
  show IntKind.u64.wrap ((BitVec.ofInt 64 IntKind.u64.max ^^^ BitVec.ofInt 64 (n : Int)).toNat : Int) = _
  rw [e, BitVec.toNat_not, h1, IntKind.wrap_u64]
  unfold nt
  omega
theorem work_num (x : Nat) (h : x + 1 < B256) : (B256 - 1 - x) / (x + 1) + 1 = B256 / (x + 1) := by
  have e : B256 = (B256 - 1 - x) + (x + 1) := by omega
  conv => rhs; rw [e]
  rw [Nat.add_div_right _ (by omega)]

set_option maxRecDepth 100000 in
set_option maxHeartbeats 1600000 in
theorem work_some (t : Wd) (h : t.n + 1 < B256) (w : World) :
    Calls Try.prog 18 #[.agg (wv t.n)] w fun e w' => e = .returned (.agg (wv (wk t).n)) ∧ Grew w w' := by
  have h1 : t.addOk (Wd.of 1) = true := by unfold Wd.addOk; rw [Wd.of_1]; simpa using h
  have n0 : ∀ i, bits .xor .u64 IntKind.u64.max (lb t.n i : Int) = ((nt (lb t.n i) : Nat) : Int) := fun i => not_u64 _ (lb_lt _ _)
  have hs : IntKind.u64.signed = false := rfl
  have hc := not_cells t.n t.lt
  obtain ⟨r, hr⟩ : ∃ r : Wd, r.n = B256 - 1 - t.n := ⟨⟨B256 - 1 - t.n, by have := t.lt; omega⟩, rfl⟩
  rw [← hr] at hc
  have Hf : Hid (((r.div (t.add (Wd.of 1))).add (Wd.of 1)).n = (wk t).n) := by
    refine (?_ : _ = _)
    have e : (t.add (Wd.of 1)).n = t.n + 1 := by rw [Wd.add_ok h1, Wd.of_1]
    rw [Wd.add_n, Wd.div_n, hr, e, Wd.of_1, work_num t.n h]
    unfold wk
    rw [Wd.of_n]
  clear h hr
  go_enter Try.func18, Try.ntmps18
  go_wp2
  first | apply wp_region_env_g [0,1,2,3,4,5] [6,7,8] (by kernel_rfl) (by kernel_rfl) (by kernel_rfl) (by intro _ _ _ d _ h; cases d <;> exact h) _ | apply wp_region_env_p [0,1,2,3,4,5] [6,7,8] (by kernel_rfl) (by kernel_rfl) (by kernel_rfl) (by intro _ _ _ d _ h; cases d <;> exact h) _
  · intro A hA δ'
    simp only [pickOps_cons, pickOps_nil, pick1_zero, pick1_succ]
    repeat (go_big_quiet_step ((first | (go_at_call 19; exact Calls.pure_of_g (of_wd _ (by decide) _)) | (go_at_call 40; exact Calls.pure_of_g (wadd_w _ _ _)))))
    exact wpQuiet_nil hA.out.symm
  simp only [pickOps_cons, pickOps_nil, pick1_zero, pick1_succ]
  refine wpEnv_step ?_
  intro δe0
  go_wp2
  refine ⟨(by repeat (first | with_reducible exact grows_self _ _ | with_reducible apply grows_alloc | with_reducible apply grows_grow | with_reducible apply grows_drew | with_reducible exact grows_none _)), ?_⟩
  refine wpEnv_step ?_
  intro δe1
  go_wp2
  refine ⟨(by repeat (first | with_reducible exact grows_self _ _ | with_reducible apply grows_alloc | with_reducible apply grows_grow | with_reducible apply grows_drew | with_reducible exact grows_none _)), ?_⟩
  refine wpEnv_step ?_
  intro δe2
  go_wp2
  refine ⟨(by repeat (first | with_reducible exact grows_self _ _ | with_reducible apply grows_alloc | with_reducible apply grows_grow | with_reducible apply grows_drew | with_reducible exact grows_none _)), ?_⟩
  refine wpEnv_end ?_
  intro δ1
  try simp only [grow_grow]
  go_wp2_with (go_at_call 41; refine (div_w r _ _).mono ?_; rintro e w' ⟨rfl, δ, rfl⟩)
  first | refine wp_region_pure_tail_g 6 (by kernel_rfl) (by kernel_rfl) (by intro _ _ _ d _ h; cases d <;> exact h) ?_ | refine wp_region_pure_tail 6 (by kernel_rfl) (by kernel_rfl) (by intro _ _ _ d _ h; cases d <;> exact h) ?_
  simp only [List.take_succ_cons, List.take_zero, List.drop_succ_cons, List.drop_zero]
  repeat (go_big_quiet_step ((first | (go_at_call 19; exact Calls.pure_of (of_wd _ (by decide) _)) | (go_at_call 40; exact Calls.pure_of (wadd_w _ _ _)))))
  refine wpQuiet_nil ?_
  intro _ hw'
  obtain ⟨δ1, hw''⟩ := hw'
  subst hw''
  go_wp2
  refine bodyPost_ret (v := .agg (wv (wk t).n)) ?_ rfl ⟨rfl, (by repeat (first | with_reducible exact Grew.refl _ | with_reducible apply Grew.alloc | with_reducible apply Grew.grow | with_reducible apply Grew.drew | with_reducible apply Grew.drewN))⟩
  simp [results, Try.results18, go_sem]
  rw [Hf.out]

set_option maxRecDepth 100000 in
set_option maxHeartbeats 1600000 in
theorem work_last (t : Wd) (h : t.n + 1 = B256) (w : World) :
    Calls Try.prog 18 #[.agg (wv t.n)] w fun e w' => e = .returned (.agg (wv (wk t).n)) ∧ Grew w w' := by
  have h1 : t.addOk (Wd.of 1) = false := by unfold Wd.addOk; rw [Wd.of_1, h]; simp
  have Hf : Hid ((Wd.of 1).n = (wk t).n) := by
    refine (?_ : _ = _)
    unfold wk
    rw [h, Nat.div_self b256_pos]
  clear h
  go_enter Try.func18, Try.ntmps18
  go_wp2
  first | apply wp_region_env_g [0,1,2,3,4,5] [6,7,8] (by kernel_rfl) (by kernel_rfl) (by kernel_rfl) (by intro _ _ _ d _ h; cases d <;> exact h) _ | apply wp_region_env_p [0,1,2,3,4,5] [6,7,8] (by kernel_rfl) (by kernel_rfl) (by kernel_rfl) (by intro _ _ _ d _ h; cases d <;> exact h) _
  · intro A hA δ'
    simp only [pickOps_cons, pickOps_nil, pick1_zero, pick1_succ]
    repeat (go_big_quiet_step ((first | (go_at_call 19; exact Calls.pure_of_g (of_wd _ (by decide) _)) | (go_at_call 40; exact Calls.pure_of_g (wadd_w _ _ _)))))
    exact wpQuiet_nil hA.out.symm
  simp only [pickOps_cons, pickOps_nil, pick1_zero, pick1_succ]
  refine wpEnv_step ?_
  intro δe0
  go_wp2
  refine ⟨(by repeat (first | with_reducible exact grows_self _ _ | with_reducible apply grows_alloc | with_reducible apply grows_grow | with_reducible apply grows_drew | with_reducible exact grows_none _)), ?_⟩
  refine wpEnv_step ?_
  intro δe1
  go_wp2
  refine ⟨(by repeat (first | with_reducible exact grows_self _ _ | with_reducible apply grows_alloc | with_reducible apply grows_grow | with_reducible apply grows_drew | with_reducible exact grows_none _)), ?_⟩
  refine wpEnv_step ?_
  intro δe2
  go_wp2
  refine ⟨(by repeat (first | with_reducible exact grows_self _ _ | with_reducible apply grows_alloc | with_reducible apply grows_grow | with_reducible apply grows_drew | with_reducible exact grows_none _)), ?_⟩
  refine wpEnv_end ?_
  intro δ1
  try simp only [grow_grow]
  go_wp2_with (go_at_call 19; refine (of_wd _ (by decide) _).mono ?_; rintro e w' ⟨rfl, δ, rfl⟩)
  refine bodyPost_ret (v := .agg (wv (wk t).n)) ?_ rfl ⟨rfl, (by repeat (first | with_reducible exact Grew.refl _ | with_reducible apply Grew.alloc | with_reducible apply Grew.grow | with_reducible apply Grew.drew | with_reducible apply Grew.drewN))⟩
  simp [results, Try.results18, go_sem]
  rw [Hf.out]
theorem work_w (t : Wd) (w : World) :
    Calls Try.prog 18 #[.agg (wv t.n)] w fun e w' => e = .returned (.agg (wv (wk t).n)) ∧ Grew w w' := by
  have := t.lt
  by_cases h : t.n + 1 < B256
  · exact work_some t h w
  · exact work_last t (by omega) w

set_option maxRecDepth 100000 in
set_option maxHeartbeats 1600000 in
theorem above_w (n t : Wd) (k : Int) (p q : Nat) (w : World) (h1 : w.rowAt p = wv n.n) (h2 : w.rowAt q = wv t.n) :
    Calls Try.prog 42 #[.int .i64 k, .pointer (some ⟨p, 0, none⟩), .pointer (some ⟨q, 0, none⟩)] w fun e w' => e = .returned (.bool (decide (0 < n.cmp (t.down k)))) ∧ Grew w w' := by
  have c1 : ∀ i, w.cell? ⟨p, i, none⟩ = (wv n.n)[i]? := fun i => by rw [← h1]; exact cell_rowAt w p i
  have c2 : ∀ i, w.cell? ⟨q, i, none⟩ = (wv t.n)[i]? := fun i => by rw [← h2]; exact cell_rowAt w q i
  have l1 := row_lt w (n := 3) (g := p) (by rw [h1]; rfl)
  have l2 := row_lt w (n := 3) (g := q) (by rw [h2]; rfl)
  clear h1 h2
  go_enter Try.func42, Try.ntmps42
  go_wp2
  first | refine wp_region_pure_lit_g (by kernel_rfl) (by kernel_rfl) ?_ | refine wp_region_pure_lit (by kernel_rfl) (by kernel_rfl) ?_
  repeat (go_big_quiet_step ((first | (go_at_call 44; exact Calls.pure_of (down_w _ _ _)) | (go_at_call 43; exact Calls.pure_of (cmp_w _ _ _)))))
  refine wpQuiet_nil ?_
  intro _ hw'
  obtain ⟨δ1, hw''⟩ := hw'
  subst hw''
  go_wp2
  go_ret
  exact ⟨rfl, (by repeat (first | with_reducible exact Grew.refl _ | with_reducible apply Grew.alloc | with_reducible apply Grew.grow | with_reducible apply Grew.drew | with_reducible apply Grew.drewN))⟩
end Go.Proofs.Ytommbfgagalckaa
/- The greatest number, and work. -/
namespace Go.Proofs.Ytommbfgagalckaa
set_option linter.unusedVariables false
set_option linter.unusedSimpArgs false
open Go.RowKit

theorem max_ex : ∃ m : Wd, m.n = B256 - 1 := ⟨⟨B256 - 1, by unfold B256; omega⟩, rfl⟩
/-- The greatest number. -/
noncomputable def Wd.max : Wd := Classical.choose max_ex
theorem Wd.max_n : Wd.max.n = B256 - 1 := Classical.choose_spec max_ex
def wideMax : Sem Next := do let x ← Instr.build 26 #[(0, .int .u64 18446744073709551615), (1, .int .u64 18446744073709551615), (2, .int .u64 18446744073709551615), (3, .int .u64 18446744073709551615)]; pure (.value x)
theorem run_wideMax' (w : World) : wideMax.run Try.prog w = .ok (.value (.agg #[.int .u64 18446744073709551615, .int .u64 18446744073709551615, .int .u64 18446744073709551615, .int .u64 18446744073709551615])) w := by kernel_rfl
theorem max_cells : #[Value.int .u64 18446744073709551615, .int .u64 18446744073709551615, .int .u64 18446744073709551615, .int .u64 18446744073709551615] = wv (B256 - 1) := by
  have := wv_w4 (a := 18446744073709551615) (b := 18446744073709551615) (c := 18446744073709551615) (d := 18446744073709551615) (by omega) (by omega) (by omega) (by omega)
  have e : w4 18446744073709551615 18446744073709551615 18446744073709551615 18446744073709551615 = B256 - 1 := by unfold w4 B256; omega
  rw [e] at this
  exact this
@[go_sem] theorem run_wideMax (w : World) : wideMax.run Try.prog w = .ok (.value (.agg (wv Wd.max.n))) w := by
  rw [run_wideMax', max_cells, Wd.max_n]
section
variable (ρ : Operand → Value) (d : Option Tmp) (t : TypeId) (p : String) (a : Array Edge) (g : Option (Nat × Bool))
@[go_sem ↓] theorem ex_wideMax (b : Act) : execOp b.eval ⟨d, .build 26 #[(0, .const (.int .u64 18446744073709551615)), (1, .const (.int .u64 18446744073709551615)), (2, .const (.int .u64 18446744073709551615)), (3, .const (.int .u64 18446744073709551615))], t, p, a, g⟩ = wideMax := by
  simp [execOp, wideMax, Act.eval]
end

theorem work_facts (t u : Wd) (h : t.addOk (Wd.of 1) = true) :
    weq (wk t).n ((Wd.max.div (t.add (Wd.of 1))).add (Wd.of 1)).n = weq ((Wd.max.rem (t.add (Wd.of 1))).add (Wd.of 1)).n (t.add (Wd.of 1)).n ∧
    weq (wk t).n (Wd.max.div (t.add (Wd.of 1))).n = !weq ((Wd.max.rem (t.add (Wd.of 1))).add (Wd.of 1)).n (t.add (Wd.of 1)).n := by
  have e : (t.add (Wd.of 1)).n = t.n + 1 := by rw [Wd.add_ok h, Wd.of_1]
  have h1 : t.n + 1 < B256 := by rw [← e]; exact (t.add (Wd.of 1)).lt
  have b0 := b256_pos
  have hr : (B256 - 1) % (t.n + 1) < t.n + 1 := Nat.mod_lt _ (by omega)
  have hd := Nat.div_add_mod (B256 - 1) (t.n + 1)
  have er : ((Wd.max.rem (t.add (Wd.of 1))).add (Wd.of 1)).n = (B256 - 1) % (t.n + 1) + 1 := by
    rw [Wd.add_n, Wd.rem_n _ _ (by rw [e]; omega), e, Wd.of_1, Wd.max_n]
    exact Nat.mod_eq_of_lt (by omega)
  have eq : (Wd.max.div (t.add (Wd.of 1))).n = (B256 - 1) / (t.n + 1) := by rw [Wd.div_n, e, Wd.max_n]
  have em : ((Wd.max.div (t.add (Wd.of 1))).add (Wd.of 1)).n = ((B256 - 1) / (t.n + 1) + 1) % B256 := by rw [Wd.add_n, eq, Wd.of_1]
  have ew : (wk t).n = B256 / (t.n + 1) % B256 := by unfold wk; rw [Wd.of_n]
  rw [Wd.weq, Wd.weq, Wd.weq, er, em, eq, ew, e]
  have hq : (B256 - 1) / (t.n + 1) < B256 := Nat.lt_of_le_of_lt (Nat.div_le_self _ _) (by omega)
  by_cases hc : (B256 - 1) % (t.n + 1) = t.n
  · have hw : B256 / (t.n + 1) = (B256 - 1) / (t.n + 1) + 1 := by
      have : B256 = (t.n + 1) * ((B256 - 1) / (t.n + 1) + 1) := by rw [Nat.mul_add]; omega
      conv => lhs; rw [this]
      exact Nat.mul_div_cancel_left _ (by omega)
    rw [hw, hc]
    generalize (B256 - 1) / (t.n + 1) = q at *
    have : (q + 1) % B256 ≠ q := by
      by_cases hh : q + 1 < B256
      · rw [Nat.mod_eq_of_lt hh]; omega
      · have : q + 1 = B256 := by omega
        rw [this, Nat.mod_self]; unfold B256 at *; omega
    simp [this]
  · have hw : B256 / (t.n + 1) = (B256 - 1) / (t.n + 1) := by
      have : B256 = (t.n + 1) * ((B256 - 1) / (t.n + 1)) + ((B256 - 1) % (t.n + 1) + 1) := by omega
      conv => lhs; rw [this]
      rw [Nat.mul_add_div (by omega), Nat.div_eq_of_lt (a := (B256 - 1) % (t.n + 1) + 1) (by omega), Nat.add_zero]
    rw [hw, Nat.mod_eq_of_lt hq]
    generalize (B256 - 1) / (t.n + 1) = q at *
    have : q ≠ (q + 1) % B256 := by
      by_cases hh : q + 1 < B256
      · rw [Nat.mod_eq_of_lt hh]; omega
      · have : q + 1 = B256 := by omega
        rw [this, Nat.mod_self]; unfold B256 at *; omega
    simp [this, hc]
end Go.Proofs.Ytommbfgagalckaa
/- The document's Of32, Target, Work. -/
namespace Go.Proofs.Ytommbfgagalckaa
set_option linter.unusedVariables false
set_option linter.unusedSimpArgs false
open Go.RowKit

set_option maxRecDepth 100000 in
set_option maxHeartbeats 1600000 in
theorem rtarget_bad (b e m : Nat) (hE : ((b : Int) / 16777216) = (e : Int)) (hM : (b : Int) % 16777216 = (m : Int)) (he : e < 256) (hm : m < 16777216)
    (h : decide ((e : Int) < 3) = true ∨ (decide ((e : Int) < 3) = false ∧ decide (32 < (e : Int)) = true) ∨ (decide ((e : Int) < 3) = false ∧ decide (32 < (e : Int)) = false ∧ decide ((m : Int) < 32768) = true)
      ∨ (decide ((e : Int) < 3) = false ∧ decide (32 < (e : Int)) = false ∧ decide ((m : Int) < 32768) = false ∧ decide (8388607 < (m : Int)) = true)) (w : World) :
    Calls Try.prog 53 #[.int .u32 b] w fun e w' => e = .returned (.tuple #[.agg (wv 0), .bool false]) ∧ Grew w w' := by
  rcases h with h1 | ⟨h1, h2⟩ | ⟨h1, h2, h3⟩ | ⟨h1, h2, h3, h4⟩
  all_goals
    go_enter Try.func53, Try.ntmps53
    go_wp2
    refine bodyPost_ret (v := .tuple #[.agg (wv 0), .bool false]) ?_ rfl ⟨rfl, (by repeat (first | with_reducible exact Grew.refl _ | with_reducible apply Grew.alloc | with_reducible apply Grew.grow | with_reducible apply Grew.drew | with_reducible apply Grew.drewN))⟩
    simp [results, Try.results53, go_sem]
    try rfl

set_option maxRecDepth 100000 in
set_option maxHeartbeats 1600000 in
theorem rtarget_good (b e m : Nat) (hE : ((b : Int) / 16777216) = (e : Int)) (hM : (b : Int) % 16777216 = (m : Int)) (he : e < 256) (hm : m < 16777216)
    (h1 : decide ((e : Int) < 3) = false) (h2 : decide (32 < (e : Int)) = false) (h3 : decide ((m : Int) < 32768) = false) (h4 : decide (8388607 < (m : Int)) = false) (w : World) :
    Calls Try.prog 53 #[.int .u32 b] w fun e' w' => e' = .returned (.tuple #[.agg (wv ((Wd.of m).up (8 * ((e : Int) - 3))).n), .bool true]) ∧ Grew w w' := by
  have b1 : (3 : Int) ≤ e := by simpa using h1
  go_enter Try.func53, Try.ntmps53
  go_wp2_with (first
    | (go_at_call 72; refine (wrof_w _ (by omega) _).mono ?_; rintro e w' ⟨rfl, δ, rfl⟩)
    | (go_at_call 71; refine (rup_w _ _ _).mono ?_; rintro e w' ⟨rfl, δ, rfl⟩))
  refine bodyPost_ret (v := .tuple #[.agg (wv ((Wd.of m).up (8 * ((e : Int) - 3))).n), .bool true]) ?_ rfl ⟨rfl, (by repeat (first | with_reducible exact Grew.refl _ | with_reducible apply Grew.alloc | with_reducible apply Grew.grow | with_reducible apply Grew.drew | with_reducible apply Grew.drewN))⟩
  simp [results, Try.results53, go_sem]

theorem rtarget_w (b : Nat) (hb : b < 4294967296) (w : World) :
    Calls Try.prog 53 #[.int .u32 b] w fun e w' => e = .returned (.tuple #[.agg (wv (tg b).n), .bool (tgOk b)]) ∧ Grew w w' := by
  have hE : ((b : Int) / 16777216) = ((b / 16777216 : Nat) : Int) := by omega
  have hM : (b : Int) % 16777216 = ((b % 16777216 : Nat) : Int) := by omega
  have he : b / 16777216 < 256 := by omega
  have hm : b % 16777216 < 16777216 := Nat.mod_lt _ (by decide)
  unfold tg
  cases hk : tgOk b
  · rw [if_neg (by decide)]
    refine rtarget_bad b _ _ hE hM he hm ?_ w
    unfold tgOk at hk
    generalize b / 16777216 = e at *
    generalize b % 16777216 = m at *
    simp only [decide_eq_false_iff_not, decide_eq_true_eq] at *
    omega
  · rw [if_pos rfl]
    unfold tgOk at hk
    have hk := of_decide_eq_true hk
    refine rtarget_good b _ _ hE hM he hm ?_ ?_ ?_ ?_ w
    all_goals
      generalize b / 16777216 = e at *
      generalize b % 16777216 = m at *
      simp only [decide_eq_false_iff_not]
      omega

set_option maxRecDepth 100000 in
set_option maxHeartbeats 3200000 in
theorem rwork_w (t : Wd) (w : World) :
    Calls Try.prog 55 #[.agg (wv t.n)] w fun e w' => e = .returned (.agg (wv (wk t).n)) ∧ Grew w w' := by
  have hcase : (t.addOk (Wd.of 1) = false ∧ (Wd.of 1).n = (wk t).n) ∨
      (t.addOk (Wd.of 1) = true ∧ weq ((Wd.max.rem (t.add (Wd.of 1))).add (Wd.of 1)).n (t.add (Wd.of 1)).n = true ∧ ((Wd.max.div (t.add (Wd.of 1))).add (Wd.of 1)).n = (wk t).n) ∨
      (t.addOk (Wd.of 1) = true ∧ weq ((Wd.max.rem (t.add (Wd.of 1))).add (Wd.of 1)).n (t.add (Wd.of 1)).n = false ∧ (Wd.max.div (t.add (Wd.of 1))).n = (wk t).n) := by
    cases h : t.addOk (Wd.of 1)
    · refine .inl ⟨rfl, ?_⟩
      unfold Wd.addOk at h
      rw [Wd.of_1] at h
      have := t.lt
      have e : t.n + 1 = B256 := by simp at h; omega
      unfold wk
      rw [e, Nat.div_self b256_pos]
    · obtain ⟨f1, f2⟩ := work_facts t t h
      cases hw : weq ((Wd.max.rem (t.add (Wd.of 1))).add (Wd.of 1)).n (t.add (Wd.of 1)).n
      · rw [hw, Wd.weq] at f2
        have e : (wk t).n = (Wd.max.div (t.add (Wd.of 1))).n := by simpa using f2
        exact .inr (.inr ⟨rfl, rfl, e.symm⟩)
      · rw [hw, Wd.weq] at f1
        have e : (wk t).n = ((Wd.max.div (t.add (Wd.of 1))).add (Wd.of 1)).n := by simpa using f1
        exact .inr (.inl ⟨rfl, rfl, e.symm⟩)
  rcases hcase with ⟨k1, k2⟩ | ⟨k1, k2, k3⟩ | ⟨k1, k2, k3⟩
  · have K := Lib.hid k2
    clear k2
    go_enter Try.func55, Try.ntmps55
    go_wp2
    first | apply wp_region_env_g [0,1,2,3,4,5] [6,7,8] (by kernel_rfl) (by kernel_rfl) (by kernel_rfl) (by intro _ _ _ d _ h; cases d <;> exact h) _ | apply wp_region_env_p [0,1,2,3,4,5] [6,7,8] (by kernel_rfl) (by kernel_rfl) (by kernel_rfl) (by intro _ _ _ d _ h; cases d <;> exact h) _
    · intro A hA δ'
      simp only [pickOps_cons, pickOps_nil, pick1_zero, pick1_succ]
      repeat (go_big_quiet_step ((first | (go_at_call 72; exact Calls.pure_of_g (wrof_w _ (by decide) _)) | (go_at_call 75; exact Calls.pure_of_g (radd_w _ _ _)))))
      exact wpQuiet_nil hA.out.symm
    simp only [pickOps_cons, pickOps_nil, pick1_zero, pick1_succ]
    refine wpEnv_step ?_
    intro δe0
    go_wp2
    refine ⟨(by repeat (first | with_reducible exact grows_self _ _ | with_reducible apply grows_alloc | with_reducible apply grows_grow | with_reducible apply grows_drew | with_reducible exact grows_none _)), ?_⟩
    refine wpEnv_step ?_
    intro δe1
    go_wp2
    refine ⟨(by repeat (first | with_reducible exact grows_self _ _ | with_reducible apply grows_alloc | with_reducible apply grows_grow | with_reducible apply grows_drew | with_reducible exact grows_none _)), ?_⟩
    refine wpEnv_step ?_
    intro δe2
    go_wp2
    refine ⟨(by repeat (first | with_reducible exact grows_self _ _ | with_reducible apply grows_alloc | with_reducible apply grows_grow | with_reducible apply grows_drew | with_reducible exact grows_none _)), ?_⟩
    refine wpEnv_end ?_
    intro δ1
    try simp only [grow_grow]
    go_wp2_with (go_at_call 72; refine (wrof_w _ (by decide) _).mono ?_; rintro e w' ⟨rfl, δ, rfl⟩)
    refine bodyPost_ret (v := .agg (wv (wk t).n)) ?_ rfl ⟨rfl, (by repeat (first | with_reducible exact Grew.refl _ | with_reducible apply Grew.alloc | with_reducible apply Grew.grow | with_reducible apply Grew.drew | with_reducible apply Grew.drewN))⟩
    simp [results, Try.results55, go_sem]
    rw [K.out]
  · have K := Lib.hid k3
    clear k3
    go_enter Try.func55, Try.ntmps55
    go_wp2
    first | apply wp_region_env_g [0,1,2,3,4,5] [6,7,8] (by kernel_rfl) (by kernel_rfl) (by kernel_rfl) (by intro _ _ _ d _ h; cases d <;> exact h) _ | apply wp_region_env_p [0,1,2,3,4,5] [6,7,8] (by kernel_rfl) (by kernel_rfl) (by kernel_rfl) (by intro _ _ _ d _ h; cases d <;> exact h) _
    · intro A hA δ'
      simp only [pickOps_cons, pickOps_nil, pick1_zero, pick1_succ]
      repeat (go_big_quiet_step ((first | (go_at_call 72; exact Calls.pure_of_g (wrof_w _ (by decide) _)) | (go_at_call 75; exact Calls.pure_of_g (radd_w _ _ _)))))
      exact wpQuiet_nil hA.out.symm
    simp only [pickOps_cons, pickOps_nil, pick1_zero, pick1_succ]
    refine wpEnv_step ?_
    intro δe0
    go_wp2
    refine ⟨(by repeat (first | with_reducible exact grows_self _ _ | with_reducible apply grows_alloc | with_reducible apply grows_grow | with_reducible apply grows_drew | with_reducible exact grows_none _)), ?_⟩
    refine wpEnv_step ?_
    intro δe1
    go_wp2
    refine ⟨(by repeat (first | with_reducible exact grows_self _ _ | with_reducible apply grows_alloc | with_reducible apply grows_grow | with_reducible apply grows_drew | with_reducible exact grows_none _)), ?_⟩
    refine wpEnv_step ?_
    intro δe2
    go_wp2
    refine ⟨(by repeat (first | with_reducible exact grows_self _ _ | with_reducible apply grows_alloc | with_reducible apply grows_grow | with_reducible apply grows_drew | with_reducible exact grows_none _)), ?_⟩
    refine wpEnv_end ?_
    intro δ1
    try simp only [grow_grow]
    go_wp2_with (go_at_call 76; refine (rdiv_w _ _ _).mono ?_; rintro e w' ⟨rfl, δ, rfl⟩)
    first | apply wp_region_env_g [0,1,2,3,4,5] [6,7,8] (by kernel_rfl) (by kernel_rfl) (by kernel_rfl) (by intro _ _ _ d _ h; cases d <;> exact h) _ | apply wp_region_env_p [0,1,2,3,4,5] [6,7,8] (by kernel_rfl) (by kernel_rfl) (by kernel_rfl) (by intro _ _ _ d _ h; cases d <;> exact h) _
    · intro A hA δ'
      simp only [pickOps_cons, pickOps_nil, pick1_zero, pick1_succ]
      repeat (go_big_quiet_step ((first | (go_at_call 72; exact Calls.pure_of_g (wrof_w _ (by decide) _)) | (go_at_call 75; exact Calls.pure_of_g (radd_w _ _ _)))))
      exact wpQuiet_nil hA.out.symm
    simp only [pickOps_cons, pickOps_nil, pick1_zero, pick1_succ]
    refine wpEnv_step ?_
    intro δe0
    go_wp2
    refine ⟨(by repeat (first | with_reducible exact grows_self _ _ | with_reducible apply grows_alloc | with_reducible apply grows_grow | with_reducible apply grows_drew | with_reducible exact grows_none _)), ?_⟩
    refine wpEnv_step ?_
    intro δe1
    go_wp2
    refine ⟨(by repeat (first | with_reducible exact grows_self _ _ | with_reducible apply grows_alloc | with_reducible apply grows_grow | with_reducible apply grows_drew | with_reducible exact grows_none _)), ?_⟩
    refine wpEnv_step ?_
    intro δe2
    go_wp2
    refine ⟨(by repeat (first | with_reducible exact grows_self _ _ | with_reducible apply grows_alloc | with_reducible apply grows_grow | with_reducible apply grows_drew | with_reducible exact grows_none _)), ?_⟩
    refine wpEnv_end ?_
    intro δ1
    try simp only [grow_grow]
    go_wp2
    first | refine wp_region_pure_tail_g 6 (by kernel_rfl) (by kernel_rfl) (by intro _ _ _ d _ h; cases d <;> exact h) ?_ | refine wp_region_pure_tail 6 (by kernel_rfl) (by kernel_rfl) (by intro _ _ _ d _ h; cases d <;> exact h) ?_
    simp only [List.take_succ_cons, List.take_zero, List.drop_succ_cons, List.drop_zero]
    repeat (go_big_quiet_step ((first | (go_at_call 72; exact Calls.pure_of (wrof_w _ (by decide) _)) | (go_at_call 75; exact Calls.pure_of (radd_w _ _ _)))))
    refine wpQuiet_nil ?_
    intro _ hw'
    obtain ⟨δ1, hw''⟩ := hw'
    subst hw''
    go_wp2
    refine bodyPost_ret (v := .agg (wv (wk t).n)) ?_ rfl ⟨rfl, (by repeat (first | with_reducible exact Grew.refl _ | with_reducible apply Grew.alloc | with_reducible apply Grew.grow | with_reducible apply Grew.drew | with_reducible apply Grew.drewN))⟩
    simp [results, Try.results55, go_sem]
    rw [K.out]
  · have K := Lib.hid k3
    clear k3
    go_enter Try.func55, Try.ntmps55
    go_wp2
    first | apply wp_region_env_g [0,1,2,3,4,5] [6,7,8] (by kernel_rfl) (by kernel_rfl) (by kernel_rfl) (by intro _ _ _ d _ h; cases d <;> exact h) _ | apply wp_region_env_p [0,1,2,3,4,5] [6,7,8] (by kernel_rfl) (by kernel_rfl) (by kernel_rfl) (by intro _ _ _ d _ h; cases d <;> exact h) _
    · intro A hA δ'
      simp only [pickOps_cons, pickOps_nil, pick1_zero, pick1_succ]
      repeat (go_big_quiet_step ((first | (go_at_call 72; exact Calls.pure_of_g (wrof_w _ (by decide) _)) | (go_at_call 75; exact Calls.pure_of_g (radd_w _ _ _)))))
      exact wpQuiet_nil hA.out.symm
    simp only [pickOps_cons, pickOps_nil, pick1_zero, pick1_succ]
    refine wpEnv_step ?_
    intro δe0
    go_wp2
    refine ⟨(by repeat (first | with_reducible exact grows_self _ _ | with_reducible apply grows_alloc | with_reducible apply grows_grow | with_reducible apply grows_drew | with_reducible exact grows_none _)), ?_⟩
    refine wpEnv_step ?_
    intro δe1
    go_wp2
    refine ⟨(by repeat (first | with_reducible exact grows_self _ _ | with_reducible apply grows_alloc | with_reducible apply grows_grow | with_reducible apply grows_drew | with_reducible exact grows_none _)), ?_⟩
    refine wpEnv_step ?_
    intro δe2
    go_wp2
    refine ⟨(by repeat (first | with_reducible exact grows_self _ _ | with_reducible apply grows_alloc | with_reducible apply grows_grow | with_reducible apply grows_drew | with_reducible exact grows_none _)), ?_⟩
    refine wpEnv_end ?_
    intro δ1
    try simp only [grow_grow]
    go_wp2_with (go_at_call 76; refine (rdiv_w _ _ _).mono ?_; rintro e w' ⟨rfl, δ, rfl⟩)
    first | apply wp_region_env_g [0,1,2,3,4,5] [6,7,8] (by kernel_rfl) (by kernel_rfl) (by kernel_rfl) (by intro _ _ _ d _ h; cases d <;> exact h) _ | apply wp_region_env_p [0,1,2,3,4,5] [6,7,8] (by kernel_rfl) (by kernel_rfl) (by kernel_rfl) (by intro _ _ _ d _ h; cases d <;> exact h) _
    · intro A hA δ'
      simp only [pickOps_cons, pickOps_nil, pick1_zero, pick1_succ]
      repeat (go_big_quiet_step ((first | (go_at_call 72; exact Calls.pure_of_g (wrof_w _ (by decide) _)) | (go_at_call 75; exact Calls.pure_of_g (radd_w _ _ _)))))
      exact wpQuiet_nil hA.out.symm
    simp only [pickOps_cons, pickOps_nil, pick1_zero, pick1_succ]
    refine wpEnv_step ?_
    intro δe0
    go_wp2
    refine ⟨(by repeat (first | with_reducible exact grows_self _ _ | with_reducible apply grows_alloc | with_reducible apply grows_grow | with_reducible apply grows_drew | with_reducible exact grows_none _)), ?_⟩
    refine wpEnv_step ?_
    intro δe1
    go_wp2
    refine ⟨(by repeat (first | with_reducible exact grows_self _ _ | with_reducible apply grows_alloc | with_reducible apply grows_grow | with_reducible apply grows_drew | with_reducible exact grows_none _)), ?_⟩
    refine wpEnv_step ?_
    intro δe2
    go_wp2
    refine ⟨(by repeat (first | with_reducible exact grows_self _ _ | with_reducible apply grows_alloc | with_reducible apply grows_grow | with_reducible apply grows_drew | with_reducible exact grows_none _)), ?_⟩
    refine wpEnv_end ?_
    intro δ1
    try simp only [grow_grow]
    go_wp2
    refine bodyPost_ret (v := .agg (wv (wk t).n)) ?_ rfl ⟨rfl, (by repeat (first | with_reducible exact Grew.refl _ | with_reducible apply Grew.alloc | with_reducible apply Grew.grow | with_reducible apply Grew.drew | with_reducible apply Grew.drewN))⟩
    simp [results, Try.results55, go_sem]
    rw [K.out]
end Go.Proofs.Ytommbfgagalckaa
/- target's Level: the search. -/
namespace Go.Proofs.Ytommbfgagalckaa
set_option linter.unusedVariables false
set_option linter.unusedSimpArgs false
open Go.RowKit

/-- How many of the first 'm' halvings of 't' are no less than 'n'. -/
def lev (n t : Nat) : Nat → Nat
  | 0 => 0
  | m + 1 => if n ≤ t >>> m then m + 1 else lev n t m
theorem shr_anti (t k m : Nat) (h : k ≤ m) : t >>> m ≤ t >>> k := by
  obtain ⟨d, rfl⟩ : ∃ d, m = k + d := ⟨m - k, by omega⟩
  rw [Nat.shiftRight_add]; exact Nat.shiftRight_le _ _
theorem lev_spec (n t : Nat) : ∀ m, lev n t m ≤ m ∧ ∀ k, k < m → (k < lev n t m ↔ n ≤ t >>> k)
  | 0 => ⟨Nat.le_refl _, fun k hk => by omega⟩
  | m + 1 => by
    obtain ⟨h1, h2⟩ := lev_spec n t m
    unfold lev
    by_cases h : n ≤ t >>> m
    · rw [if_pos h]
      exact ⟨Nat.le_refl _, fun k hk => ⟨fun _ => Nat.le_trans h (shr_anti t k m (by omega)), fun _ => hk⟩⟩
    · rw [if_neg h]
      refine ⟨by omega, fun k hk => ?_⟩
      by_cases hkm : k = m
      · subst hkm; exact ⟨fun hh => by omega, fun hh => absurd hh h⟩
      · exact h2 k (by omega)
noncomputable def levW (n t : Wd) : Nat := lev n.n t.n 32
theorem levW_le (n t : Wd) : levW n t ≤ 32 := (lev_spec _ _ _).1
theorem levW_iff (n t : Wd) (k : Nat) (hk : k < 32) : k < levW n t ↔ n.n ≤ t.n >>> k := (lev_spec _ _ _).2 k hk
theorem above_lev (n t : Wd) (k : Nat) (hk : k < 32) : decide (0 < n.cmp (t.down k)) = decide (levW n t ≤ k) := by
  rw [Wd.cmp_pos, Wd.down_n, Bool.eq_iff_iff, decide_eq_true_eq, decide_eq_true_eq]
  have := levW_iff n t k hk
  omega
theorem above_k (n t : Wd) (k : Int) (h0 : 0 ≤ k) (hk : k < 32) (p q : Nat) (w : World) (h1 : w.rowAt p = wv n.n) (h2 : w.rowAt q = wv t.n) :
    Calls Try.prog 42 #[.int .i64 k, .pointer (some ⟨p, 0, none⟩), .pointer (some ⟨q, 0, none⟩)] w fun e w' => e = .returned (.bool (decide ((levW n t : Int) ≤ k))) ∧ Grew w w' := by
  obtain ⟨m, rfl⟩ := Int.eq_ofNat_of_zero_le h0
  have e : decide ((levW n t : Int) ≤ (m : Int)) = decide (levW n t ≤ m) := by rw [Bool.eq_iff_iff, decide_eq_true_eq, decide_eq_true_eq]; omega
  rw [e, ← above_lev n t m (by omega)]
  exact above_w n t m p q w h1 h2

set_option maxRecDepth 100000 in
set_option maxHeartbeats 1600000 in
theorem search_w (n t : Wd) (p q : Nat) (w : World) (h1 : w.rowAt p = wv n.n) (h2 : w.rowAt q = wv t.n) :
    Calls Try.prog 45 #[.int .i64 32, .func (.func 42) #[] #[.pointer (some ⟨p, 0, none⟩), .pointer (some ⟨q, 0, none⟩)]] w fun e w' => e = .returned (.int .i64 (levW n t)) ∧ Grew w w' := by
  have l1 := row_lt w (n := 3) (g := p) (by rw [h1]; rfl)
  have l2 := row_lt w (n := 3) (g := q) (by rw [h2]; rfl)
  have H1 := Lib.hid h1
  have H2 := Lib.hid h2
  have hl := levW_le n t
  clear h1 h2
  go_enter Try.func45, Try.ntmps45
  go_wp2
  go_loopw [5, 6] (fun x y wr => ∃ (i j : Nat) (δ : Junk), x = .int .i64 i ∧ y = .int .i64 j ∧ i ≤ levW n t ∧ levW n t ≤ j ∧ j ≤ 32 ∧ wr = w.grow δ) (fun x y _ => (intOf y - intOf x).toNat)
  case atStart => exact ⟨0, 32, ⟨#[], w.drawn⟩, rfl, rfl, by omega, hl, by omega, (grow_self w).symm⟩
  case round =>
    obtain ⟨i, j, δ, rfl, rfl, hi, hj, hj2, rfl⟩ := hrel
    by_cases hn : i < j
    · obtain ⟨h, hh⟩ : ∃ h : Nat, h = (i + j) / 2 := ⟨_, rfl⟩
      have e : ((i : Int) + (j : Int)) / 2 = (h : Int) := by omega
      have hb1 : i ≤ h := by omega
      have hb2 : h < j := by omega
      have r1 : (w.grow δ).rowAt p = wv n.n := by rw [rowAt_grow_old w δ p l1]; exact H1.out
      have r2 : (w.grow δ).rowAt q = wv t.n := by rw [rowAt_grow_old w δ q l2]; exact H2.out
      have R1 := Lib.hid r1
      have R2 := Lib.hid r2
      clear r1 r2 hh
      cases hc : decide (levW n t ≤ h)
      · have hc' : ¬ levW n t ≤ h := of_decide_eq_false hc
        go_wp2_with (go_at_call 42; refine (above_k n t _ (by omega) (by omega) _ _ _ R1.out R2.out).mono ?_; rintro e w' ⟨rfl, δ', rfl⟩)
        exact ⟨⟨h + 1, j, _, by go_num, rfl, by omega, hj, hj2, rfl⟩, by simp only [intOf]; omega⟩
      · have hc' : levW n t ≤ h := of_decide_eq_true hc
        go_wp2_with (go_at_call 42; refine (above_k n t _ (by omega) (by omega) _ _ _ R1.out R2.out).mono ?_; rintro e w' ⟨rfl, δ', rfl⟩)
        exact ⟨⟨i, h, _, rfl, rfl, hi, hc', by omega, rfl⟩, by simp only [intOf]; omega⟩
    · go_wp2
      go_ret
      exact ⟨congrArg Ending.returned (congrArg (Value.int IntKind.i64) (by omega)), (by repeat (first | with_reducible exact Grew.refl _ | with_reducible apply Grew.alloc | with_reducible apply Grew.grow | with_reducible apply Grew.drew | with_reducible apply Grew.drewN))⟩

/-- The level of an id. -/
noncomputable def lv (i : Idb) (t : Wd) : Int := (levW i.w t : Int) - 1
theorem lv_bd (i : Idb) (t : Wd) : -1 ≤ lv i t ∧ lv i t ≤ 31 := by have := levW_le i.w t; unfold lv; omega
set_option maxRecDepth 100000 in
set_option maxHeartbeats 1600000 in
theorem level_i (i : Idb) (t : Wd) (w : World) :
    Calls Try.prog 20 #[.agg (iv i.l), .agg (wv t.n)] w fun e w' => e = .returned (.int .i64 (lv i t)) ∧ Grew w w' := by
  have hb := levW_le i.w t
  go_enter Try.func20, Try.ntmps20
  go_wp2_with (go_at_call 34; refine (of32_i i _).mono ?_; rintro e w' ⟨rfl, δ, rfl⟩)
  refine (search_w i.w t _ _ _ (by simp [go_sem]) (by simp [go_sem])).mono ?_
  rintro e w' ⟨rfl, δ', rfl⟩
  go_wp2
  go_ret
  exact ⟨rfl, (by repeat (first | with_reducible exact Grew.refl _ | with_reducible apply Grew.alloc | with_reducible apply Grew.grow | with_reducible apply Grew.drew | with_reducible apply Grew.drewN))⟩
end Go.Proofs.Ytommbfgagalckaa
/- wide's Bytes, and the document's; ids by '=='; bytes told as strings. -/
namespace Go.Proofs.Ytommbfgagalckaa
set_option linter.unusedVariables false
set_option linter.unusedSimpArgs false
open Go.RowKit

/-- The id of a number. -/
theorem bytesN_lt (x : Nat) : ∀ c ∈ bytesN x, c < 256 := by
  intro c hc
  unfold bytesN at hc
  simp only [List.mem_map] at hc
  obtain ⟨i, _, rfl⟩ := hc
  exact byteN_lt x i
def Wd.id (x : Wd) : Idb := ⟨bytesN x.n, bytesN_length _, bytesN_lt _⟩
theorem Wd.id_w (x : Wd) : x.id.w.n = x.n := by rw [Idb.w_n]; exact numB_bytesN x.n x.lt

theorem shr_byte (u s : Nat) : IntKind.u8.wrap ((u : Int) / 2 ^ s) = ((u >>> s % 256 : Nat) : Int) := by
  rw [Nat.shiftRight_eq_div_pow]
  have e : ((u : Int) / 2 ^ s) = ((u / 2 ^ s : Nat) : Int) := by rw [Int.natCast_ediv, Int.natCast_pow]; rfl
  rw [e]
  show ((u / 2 ^ s : Nat) : Int) % 256 = _
  omega
set_option maxRecDepth 100000 in
set_option maxHeartbeats 1600000 in
theorem bytes_w (x : Wd) (w : World) :
    Calls Try.prog 29 #[.agg (wv x.n)] w fun e w' => e = .returned (.agg (iv x.id.l)) ∧ Grew w w' := by
  go_enter Try.func29, Try.ntmps29
  go_wp2
  go_loopw [5] (fun n wr => ∃ (k : Nat), k ≤ 32 ∧ n = .int .i64 k ∧
      wr = (((w.alloc (.cells (wv x.n) 26)).alloc (.cells (iv id0) 23)).alloc (.cells (iv (filled (byteN x.n) 32 k)) 23))) (fun n _ => 32 - (intOf n).toNat)
  case atStart => exact ⟨0, by omega, rfl, by rw [filled_zero]; rfl⟩
  case round =>
    obtain ⟨k, hk, rfl, rfl⟩ := hrel
    by_cases hn : k < 32
    · have h1 : (wv x.n)[3 - k / 8]? = some (.int .u64 (lb x.n (3 - k / 8))) := wv_at x.n (3 - k / 8) (by omega)
      have h2 := shr_byte (lb x.n (3 - k / 8)) (56 - 8 * (k % 8))
      rw [← byteN_lb x.n k hn] at h2
      have h3 : (iv (filled (byteN x.n) 32 k)).setIfInBounds k (.int .u8 (byteN x.n k : Nat)) = iv (filled (byteN x.n) 32 (k + 1)) := by rw [iv_set, filled_step]
      have h4 : (iv (filled (byteN x.n) 32 k))[k]? = some (.int .u8 (byteAt (filled (byteN x.n) 32 k) k : Nat)) := iv_at _ _ (by rw [filled_length]; exact hn)
      go_wp2
      exact ⟨⟨k + 1, by omega, by go_num, rfl⟩, by simp only [intOf]; omega⟩
    · obtain rfl : k = 32 := by omega
      have e : filled (byteN x.n) 32 32 = x.id.l := filled_all _ _
      rw [e]
      go_wp2
      exact bodyPost_ret (v := .agg (iv x.id.l)) (id_result Try.results29 _ rfl (by simp [go_sem]) x.id.len) rfl ⟨rfl, (by repeat (first | with_reducible exact Grew.refl _ | with_reducible apply Grew.alloc | with_reducible apply Grew.grow | with_reducible apply Grew.drew | with_reducible apply Grew.drewN))⟩

/-- 'n' bytes, of which the last 'k' are given by 'f' and the others are 0. -/
def rfilled (f : Nat → Nat) (n k : Nat) : List Nat := (List.range n).map fun i => if n - k ≤ i then f i else 0
theorem rfilled_length (f : Nat → Nat) (n k : Nat) : (rfilled f n k).length = n := by simp [rfilled]
theorem rfilled_zero (f : Nat → Nat) (n : Nat) : rfilled f n 0 = List.replicate n 0 := by
  apply List.ext_getElem
  · simp [rfilled]
  · intro i h1 h2
    have : i < n := by simpa [rfilled] using h1
    simp [rfilled]; omega
theorem rfilled_step (f : Nat → Nat) (n k : Nat) (h : k < n) : (rfilled f n k).set (n - 1 - k) (f (n - 1 - k)) = rfilled f n (k + 1) := by
  apply List.ext_getElem
  · simp [rfilled]
  · intro i h1 h2
    simp only [List.getElem_set, rfilled, List.getElem_map, List.getElem_range]
    by_cases hi : n - 1 - k = i
    · subst hi; rw [if_pos rfl, if_pos (by omega)]
    · rw [if_neg hi]
      by_cases h3 : n - k ≤ i
      · rw [if_pos h3, if_pos (by omega)]
      · rw [if_neg h3, if_neg (by omega)]
theorem rfilled_all (f : Nat → Nat) (n : Nat) : rfilled f n n = (List.range n).map f := by
  unfold rfilled
  apply List.map_congr_left
  intro i hi
  rw [if_pos (by omega)]
theorem byteN_rev (x i : Nat) (h : i < 32) : byteN x (31 - i) = lb x (i / 8) >>> (8 * (i % 8)) % 256 := by
  rw [byteN_lb x (31 - i) (by omega), show 3 - (31 - i) / 8 = i / 8 by omega, show 56 - 8 * ((31 - i) % 8) = 8 * (i % 8) by omega]
def shf (u j : Nat) : Nat := u >>> (8 * j)
theorem shf_zero (u : Nat) : shf u 0 = u := by simp [shf]
theorem shf_le (u j : Nat) : shf u j ≤ u := Nat.shiftRight_le _ _
theorem shf_mod (x k : Nat) (h : k < 32) : (shf (lb x (k / 8)) (k % 8) : Int) % 256 = ((byteN x (31 - k) : Nat) : Int) := by
  rw [byteN_rev x k h]; unfold shf; omega
theorem div256 (u j : Nat) : (((shf u j : Nat) : Int) / 256) = ((shf u (j + 1) : Nat) : Int) := by
  unfold shf
  rw [show 8 * (j + 1) = 8 * j + 8 by omega, Nat.shiftRight_add, Nat.shiftRight_eq_div_pow (u >>> (8 * j)) 8]
  omega
set_option maxRecDepth 100000 in
set_option maxHeartbeats 3200000 in
theorem rbytes_w (x : Wd) (w : World) :
    Calls Try.prog 46 #[.agg (wv x.n)] w fun e w' => e = .returned (.agg (iv x.id.l)) ∧ Grew w w' := by
  go_enter Try.func46, Try.ntmps46
  go_wp2
  go_loopw [4] (fun n wr => ∃ (k : Nat), k ≤ 32 ∧ n = .int .i64 k ∧
      wr = (((w.alloc (.cells (wv x.n) 26)).alloc (.cells (iv id0) 23)).alloc (.cells (iv (rfilled (byteN x.n) 32 k)) 23))) (fun n _ => 32 - (intOf n).toNat)
  case atStart => exact ⟨0, by omega, rfl, by rw [rfilled_zero]; rfl⟩
  case round =>
    obtain ⟨k, hk, rfl, rfl⟩ := hrel
    by_cases hn : k < 32
    · have h1 : (wv x.n)[k / 8]? = some (.int .u64 (lb x.n (k / 8))) := wv_at x.n (k / 8) (by omega)
      have hb := lb_lt x.n (k / 8)
      go_wp2
      go_loop [5, 6] (fun v n => ∃ j : Nat, j ≤ k % 8 ∧ n = .int .i64 j ∧ v = .int .u64 ((shf (lb x.n (k / 8)) j : Nat) : Int)) (fun _ n => k % 8 - (intOf n).toNat)
      case atStart => exact ⟨0, by omega, rfl, by rw [shf_zero]⟩
      case round =>
        obtain ⟨j, hj, rfl, rfl⟩ := hrel
        by_cases hjn : j < k % 8
        · have h2 := div256 (lb x.n (k / 8)) j
          have h3 : shf (lb x.n (k / 8)) (j + 1) < 18446744073709551616 := Nat.lt_of_le_of_lt (shf_le _ _) hb
          have hlt : decide ((j : Int) < (k : Int) % 8) = true := decide_eq_true (by omega)
          go_wp2
          exact ⟨⟨j + 1, by omega, by go_num, rfl⟩, by simp only [intOf]; omega⟩
        · obtain rfl : j = k % 8 := by omega
          have h2 := shf_mod x.n k hn
          have h3 := byteN_lt x.n (31 - k)
          have h4 : (iv (rfilled (byteN x.n) 32 k))[31 - k]? = some (.int .u8 (byteAt (rfilled (byteN x.n) 32 k) (31 - k) : Nat)) := iv_at _ _ (by rw [rfilled_length]; omega)
          have h5 : (iv (rfilled (byteN x.n) 32 k)).setIfInBounds (31 - k) (.int .u8 (byteN x.n (31 - k) : Nat)) = iv (rfilled (byteN x.n) 32 (k + 1)) := by rw [iv_set]; exact congrArg iv (rfilled_step (byteN x.n) 32 k hn)
          go_wp2
          exact ⟨⟨k + 1, by omega, by go_num, rfl⟩, by simp only [intOf]; omega⟩
    · obtain rfl : k = 32 := by omega
      have e : rfilled (byteN x.n) 32 32 = x.id.l := rfilled_all _ _
      rw [e]
      go_wp2
      exact bodyPost_ret (v := .agg (iv x.id.l)) (id_result Try.results46 _ rfl (by simp [go_sem]) x.id.len) rfl ⟨rfl, (by repeat (first | with_reducible exact Grew.refl _ | with_reducible apply Grew.alloc | with_reducible apply Grew.grow | with_reducible apply Grew.drew | with_reducible apply Grew.drewN))⟩
end Go.Proofs.Ytommbfgagalckaa
/- Arguments that are numbers below 2^256, opened. -/
namespace Go.Proofs.Ytommbfgagalckaa
set_option linter.unusedVariables false
set_option linter.unusedSimpArgs false
open Go.ChangeShapes Go.WideShapes Go.ChangeAt Go.RowKit
set_option maxRecDepth 100000
theorem cellsW4 : Try.prog.cellsOf 26 = 4 := by kernel_rfl
theorem cellsU1 : Try.prog.cellsOf 24 = 1 := by kernel_rfl
theorem cellsI1 : Try.prog.cellsOf 3 = 1 := by kernel_rfl
theorem u64_nat' {a : Int} (h : (Lit.int .u64 a).wf = true) : ∃ n : Nat, a = n ∧ n < 18446744073709551616 := by
  have hx : 0 ≤ a ∧ a ≤ 18446744073709551615 := by simpa [Lit.wf, IntKind.min, IntKind.max, IntKind.signed, IntKind.bits] using h
  exact ⟨a.toNat, by omega, by omega⟩
theorem i64_bd {a : Int} (h : (Lit.int .i64 a).wf = true) : -9223372036854775808 ≤ a ∧ a ≤ 9223372036854775807 := by
  simpa [Lit.wf, IntKind.min, IntKind.max, IntKind.signed, IntKind.bits] using h
theorem list4' {α : Type} (l : List α) (h : l.length = 4) : ∃ a b c d, l = [a, b, c, d] := by
  match l, h with
  | [a, b, c, d], _ => exact ⟨a, b, c, d, rfl⟩
/-- The cells of a number below 2^256, read. -/
theorem cells_wd {H : Type} {enc : TypeId × Value → H} {W : World} {base : Nat} {sp : Nat → Bool} {fuel : Nat} {cs : List Value} {d : DataW H × List MemPlace}
    (hn : cs.length = 4) (hf : DataW.trod enc Try.prog W base sp true fuel 26 cs = some d) : ∃ x : Wd, cs = (wv x.n).toList := by
  obtain ⟨c0, c1, c2, c3, rfl⟩ := list4' cs hn
  obtain ⟨y0, y1, y2, y3, m, hx, hy0, hy1, hy2, hy3⟩ := trod_array4 Try.underlying26 cellsU1 hf
  obtain ⟨x0, e0, rfl, w0⟩ := DataW.trod_int Try.underlying24 hy0
  obtain ⟨x1, e1, rfl, w1⟩ := DataW.trod_int Try.underlying24 hy1
  obtain ⟨x2, e2, rfl, w2⟩ := DataW.trod_int Try.underlying24 hy2
  obtain ⟨x3, e3, rfl, w3⟩ := DataW.trod_int Try.underlying24 hy3
  simp at e0 e1 e2 e3
  subst e0 e1 e2 e3
  obtain ⟨n0, rfl, b0⟩ := u64_nat' w0
  obtain ⟨n1, rfl, b1⟩ := u64_nat' w1
  obtain ⟨n2, rfl, b2⟩ := u64_nat' w2
  obtain ⟨n3, rfl, b3⟩ := u64_nat' w3
  exact ⟨⟨w4 n0 n1 n2 n3, w4_lt b0 b1 b2 b3⟩, by rw [← wv_w4 b0 b1 b2 b3]⟩
theorem open_wd {H : Type} {enc : TypeId × Value → H} {W : World} {base : Nat} {sp : Nat → Bool} {v : Value} {d : DataW H} {p : List MemPlace}
    (hv : Value.okWide Try.prog W .any base 26 v) (h : DataW.Trod enc Try.prog W 0 sp true 26 v d p) : ∃ x : Wd, v = .agg (wv x.n) := by
  obtain ⟨cs, rfl, hsz, _⟩ : ∃ cs, v = .agg cs ∧ cs.size = Try.prog.cellsOf 26 ∧ Row.okWide Try.prog W .any base 26 cs := by
    simpa [Value.okWide, Try.underlying26] using hv
  rw [cellsW4] at hsz
  obtain ⟨fuel, hf⟩ := h
  obtain ⟨x, hx⟩ := cells_wd (cs := cs.toList) (by simpa using hsz) hf
  exact ⟨x, congrArg Value.agg (arr_ext hx)⟩
end Go.Proofs.Ytommbfgagalckaa
/- The document's Level. -/
namespace Go.Proofs.Ytommbfgagalckaa
set_option linter.unusedVariables false
set_option linter.unusedSimpArgs false
open Go.RowKit

set_option maxRecDepth 100000 in
set_option maxHeartbeats 3200000 in
theorem rlevel_i (i : Idb) (t : Wd) (w : World) :
    Calls Try.prog 54 #[.agg (iv i.l), .agg (wv t.n)] w fun e w' => e = .returned (.int .i64 (lv i t)) ∧ Grew w w' := by
  go_enter Try.func54, Try.ntmps54
  go_wp2
  go_loopw [5, 6] (fun v n wr => ∃ (k : Nat) (δ : Junk), k ≤ 32 ∧ n = .int .i64 k ∧ v = .int .i64 ((lev i.w.n t.n k : Int) - 1) ∧ wr = ((w.alloc (.cells (iv i.l) 23)).alloc (.cells (wv t.n) 26)).grow δ) (fun _ n _ => 32 - (intOf n).toNat)
  case atStart => exact ⟨0, ⟨#[], w.drawn⟩, by omega, rfl, rfl, (grow_self _).symm⟩
  case round =>
    obtain ⟨k, δ, hk, rfl, rfl, rfl⟩ := hrel
    by_cases hn : k < 32
    · have hr : lev i.w.n t.n (k + 1) = if i.w.n ≤ t.n >>> k then k + 1 else lev i.w.n t.n k := rfl
      have hc : decide (i.w.cmp (t.down k) ≤ 0) = decide (i.w.n ≤ t.n >>> k) := by rw [Wd.cmp_le, Wd.down_n]
      have Hr := Lib.hid hr
      clear hr
      by_cases hb : i.w.n ≤ t.n >>> k
      · rw [decide_eq_true hb] at hc
        have HB := Lib.hid hb
        clear hb
        go_wp2
        first | refine wp_region_pure_lit_g (by kernel_rfl) (by kernel_rfl) ?_ | refine wp_region_pure_lit (by kernel_rfl) (by kernel_rfl) ?_
        repeat (go_big_quiet_step ((first | (go_at_call 50; exact Calls.pure_of (rof32_i _ _)) | (go_at_call 74; exact Calls.pure_of (rdown_w _ _ _)) | (go_at_call 73; exact Calls.pure_of (rcmp_w _ _ _)))))
        refine wpQuiet_nil ?_
        intro _ hw'
        obtain ⟨δ1, hw''⟩ := hw'
        subst hw''
        go_wp2
        exact ⟨⟨k + 1, _, by omega, by go_num, by rw [Hr.out, if_pos HB.out]; congr 1; omega, rfl⟩, by simp only [intOf]; omega⟩
      · rw [decide_eq_false hb] at hc
        have HB := Lib.hid hb
        clear hb
        go_wp2
        first | refine wp_region_pure_lit_g (by kernel_rfl) (by kernel_rfl) ?_ | refine wp_region_pure_lit (by kernel_rfl) (by kernel_rfl) ?_
        repeat (go_big_quiet_step ((first | (go_at_call 50; exact Calls.pure_of (rof32_i _ _)) | (go_at_call 74; exact Calls.pure_of (rdown_w _ _ _)) | (go_at_call 73; exact Calls.pure_of (rcmp_w _ _ _)))))
        refine wpQuiet_nil ?_
        intro _ hw'
        obtain ⟨δ1, hw''⟩ := hw'
        subst hw''
        go_wp2
        exact ⟨⟨k + 1, _, by omega, by go_num, by rw [Hr.out, if_neg HB.out], rfl⟩, by simp only [intOf]; omega⟩
    · obtain rfl : k = 32 := by omega
      go_wp2
      go_ret
      exact ⟨rfl, (by repeat (first | with_reducible exact Grew.refl _ | with_reducible apply Grew.alloc | with_reducible apply Grew.grow | with_reducible apply Grew.drew | with_reducible apply Grew.drewN))⟩
end Go.Proofs.Ytommbfgagalckaa
/- Heads: a number, four ids, a number below 2^256, two numbers: in memory. -/
namespace Go.Proofs.Ytommbfgagalckaa
open Go.RowKit
set_option maxRecDepth 100000
set_option linter.unusedVariables false
set_option linter.unusedSimpArgs false
set_option linter.unusedSectionVars false
structure Hd where
  ht : Int
  a : Idb
  b : Idb
  c : Idb
  d : Idb
  w : Wd
  bi : Nat
  no : Nat
  lo : -9223372036854775808 ≤ ht
  hi : ht ≤ 9223372036854775807
  hb : bi < 4294967296
  hn : no < 18446744073709551616
theorem Hd.ext' {x y : Hd} (h0 : x.ht = y.ht) (h1 : x.a = y.a) (h2 : x.b = y.b) (h3 : x.c = y.c) (h4 : x.d = y.d) (h5 : x.w = y.w) (h6 : x.bi = y.bi) (h7 : x.no = y.no) : x = y := by
  cases x; cases y; cases h0; cases h1; cases h2; cases h3; cases h4; cases h5; cases h6; cases h7; rfl
/-- The cells of a head. -/
def hdl (ht : Int) (a b c d : List Nat) (w bi no : Nat) : List Value := [.int .i64 ht] ++ (bys a ++ (bys b ++ (bys c ++ (bys d ++ ((wv w).toList ++ ([.int .u32 bi] ++ [.int .u64 no]))))))
def hda (ht : Int) (a b c d : List Nat) (w bi no : Nat) : Array Value := (hdl ht a b c d w bi no).toArray
def Hd.cs (h : Hd) : List Value := hdl h.ht h.a.l h.b.l h.c.l h.d.l h.w.n h.bi h.no
def Hd.v (h : Hd) : Value := .agg (hda h.ht h.a.l h.b.l h.c.l h.d.l h.w.n h.bi h.no)
section
variable (ht : Int) (a b c d : List Nat) (w bi no : Nat) (ha1 : a.length = 32) (hb1 : b.length = 32) (hc1 : c.length = 32) (hd1 : d.length = 32)
include ha1 hb1 hc1 hd1
theorem hdl_len : (hdl ht a b c d w bi no).length = 135 := by simp [hdl, bys_len, ha1, hb1, hc1, hd1, wv_toList]
@[go_sem] theorem hda_size : (hda ht a b c d w bi no).size = 135 := by unfold hda; simpa using hdl_len ht a b c d w bi no ha1 hb1 hc1 hd1
theorem hdl_drop1 : (hdl ht a b c d w bi no).drop 1 = bys a ++ (bys b ++ (bys c ++ (bys d ++ ((wv w).toList ++ ([.int .u32 (bi : Int)] ++ [.int .u64 (no : Int)]))))) := rfl
theorem hdl_drop33 : (hdl ht a b c d w bi no).drop 33 = bys b ++ (bys c ++ (bys d ++ ((wv w).toList ++ ([.int .u32 (bi : Int)] ++ [.int .u64 (no : Int)])))) := by
  rw [show 33 = 1 + 32 from rfl, ← List.drop_drop, hdl_drop1 ht a b c d w bi no ha1 hb1 hc1 hd1, List.drop_left' (by rw [bys_len, ha1])]
theorem hdl_drop65 : (hdl ht a b c d w bi no).drop 65 = bys c ++ (bys d ++ ((wv w).toList ++ ([.int .u32 (bi : Int)] ++ [.int .u64 (no : Int)]))) := by
  rw [show 65 = 33 + 32 from rfl, ← List.drop_drop, hdl_drop33 ht a b c d w bi no ha1 hb1 hc1 hd1, List.drop_left' (by rw [bys_len, hb1])]
theorem hdl_drop97 : (hdl ht a b c d w bi no).drop 97 = bys d ++ ((wv w).toList ++ ([.int .u32 (bi : Int)] ++ [.int .u64 (no : Int)])) := by
  rw [show 97 = 65 + 32 from rfl, ← List.drop_drop, hdl_drop65 ht a b c d w bi no ha1 hb1 hc1 hd1, List.drop_left' (by rw [bys_len, hc1])]
theorem hdl_drop129 : (hdl ht a b c d w bi no).drop 129 = (wv w).toList ++ ([.int .u32 (bi : Int)] ++ [.int .u64 (no : Int)]) := by
  rw [show 129 = 97 + 32 from rfl, ← List.drop_drop, hdl_drop97 ht a b c d w bi no ha1 hb1 hc1 hd1, List.drop_left' (by rw [bys_len, hd1])]
theorem hdl_drop133 : (hdl ht a b c d w bi no).drop 133 = [.int .u32 (bi : Int)] ++ [.int .u64 (no : Int)] := by
  rw [show 133 = 129 + 4 from rfl, ← List.drop_drop, hdl_drop129 ht a b c d w bi no ha1 hb1 hc1 hd1, List.drop_left' (by rfl)]
theorem hdl_drop134 : (hdl ht a b c d w bi no).drop 134 = [.int .u64 (no : Int)] := by
  rw [show 134 = 133 + 1 from rfl, ← List.drop_drop, hdl_drop133 ht a b c d w bi no ha1 hb1 hc1 hd1]; rfl
theorem hdl_a : ((hdl ht a b c d w bi no).drop 1).take 32 = bys a := by rw [hdl_drop1 ht a b c d w bi no ha1 hb1 hc1 hd1, List.take_left' (by rw [bys_len, ha1])]
theorem hdl_b : ((hdl ht a b c d w bi no).drop 33).take 32 = bys b := by rw [hdl_drop33 ht a b c d w bi no ha1 hb1 hc1 hd1, List.take_left' (by rw [bys_len, hb1])]
theorem hdl_c : ((hdl ht a b c d w bi no).drop 65).take 32 = bys c := by rw [hdl_drop65 ht a b c d w bi no ha1 hb1 hc1 hd1, List.take_left' (by rw [bys_len, hc1])]
theorem hdl_d : ((hdl ht a b c d w bi no).drop 97).take 32 = bys d := by rw [hdl_drop97 ht a b c d w bi no ha1 hb1 hc1 hd1, List.take_left' (by rw [bys_len, hd1])]
theorem hdl_w : ((hdl ht a b c d w bi no).drop 129).take 4 = (wv w).toList := by rw [hdl_drop129 ht a b c d w bi no ha1 hb1 hc1 hd1, List.take_left' (by rfl)]
theorem hdl_0 : (hdl ht a b c d w bi no)[0]? = some (.int .i64 ht) := rfl
theorem hdl_133 : (hdl ht a b c d w bi no)[133]? = some (.int .u32 bi) := by
  have := congrArg (·[0]?) (hdl_drop133 ht a b c d w bi no ha1 hb1 hc1 hd1)
  simpa using this
theorem hdl_134 : (hdl ht a b c d w bi no)[134]? = some (.int .u64 no) := by
  have := congrArg (·[0]?) (hdl_drop134 ht a b c d w bi no ha1 hb1 hc1 hd1)
  simpa using this
@[go_sem] theorem hda_0 : (hda ht a b c d w bi no)[0]? = some (.int .i64 ht) := by unfold hda; simpa using hdl_0 ht a b c d w bi no ha1 hb1 hc1 hd1
@[go_sem] theorem hda_133 : (hda ht a b c d w bi no)[133]? = some (.int .u32 bi) := by unfold hda; simpa using hdl_133 ht a b c d w bi no ha1 hb1 hc1 hd1
@[go_sem] theorem hda_134 : (hda ht a b c d w bi no)[134]? = some (.int .u64 no) := by unfold hda; simpa using hdl_134 ht a b c d w bi no ha1 hb1 hc1 hd1
@[go_sem] theorem hda_at0 (hk : 0 < (hda ht a b c d w bi no).size) : (hda ht a b c d w bi no)[0]'hk = .int .i64 ht := by
  have := hda_0 ht a b c d w bi no ha1 hb1 hc1 hd1
  rw [Array.getElem?_eq_getElem hk] at this
  exact Option.some.inj this
@[go_sem] theorem hda_at133 (hk : 133 < (hda ht a b c d w bi no).size) : (hda ht a b c d w bi no)[133]'hk = .int .u32 bi := by
  have := hda_133 ht a b c d w bi no ha1 hb1 hc1 hd1
  rw [Array.getElem?_eq_getElem hk] at this
  exact Option.some.inj this
@[go_sem] theorem hda_at134 (hk : 134 < (hda ht a b c d w bi no).size) : (hda ht a b c d w bi no)[134]'hk = .int .u64 no := by
  have := hda_134 ht a b c d w bi no ha1 hb1 hc1 hd1
  rw [Array.getElem?_eq_getElem hk] at this
  exact Option.some.inj this
end
theorem hdl_one (ht : Int) (a b c d : List Nat) (w bi no : Nat) : (hda ht a b c d w bi no).all (·.oneCell') = true := by
  rw [Array.all_eq_true_iff_forall_mem]
  intro v hv
  simp only [hda, hdl, List.mem_toArray, List.mem_append, wv_toList, bys, List.mem_map, List.mem_cons, List.not_mem_nil, or_false] at hv
  rcases hv with rfl | ⟨_, _, rfl⟩ | ⟨_, _, rfl⟩ | ⟨_, _, rfl⟩ | ⟨_, _, rfl⟩ | (rfl | rfl | rfl | rfl) | rfl | rfl <;> rfl
theorem Hd.cs_len (h : Hd) : h.cs.length = 135 := hdl_len _ _ _ _ _ _ _ _ h.a.len h.b.len h.c.len h.d.len
/-- A field is written. -/
theorem putAt_mid {C : Array Value} {p x y q : List Value} (h : C.toList = p ++ (x ++ q)) (hdl : x.length = y.length) : putAt C p.length y = (p ++ (y ++ q)).toArray := by
  refine arr_ext ?_
  have hs : C.size = p.length + (x.length + q.length) := by
    have := congrArg List.length h
    simpa using this
  rw [putAt_list _ _ _ (by omega), h, List.take_left' rfl, ← hdl, ← List.drop_drop, List.drop_left' rfl, List.drop_left' rfl]
  simp
section
variable (ht : Int) (a b c d : List Nat) (w bi no : Nat) (ha1 : a.length = 32) (hb1 : b.length = 32) (hc1 : c.length = 32) (hd1 : d.length = 32)
@[go_sem] theorem hw_ht (x : Int) : putAt (hda ht a b c d w bi no) 0 [.int .i64 x] = hda x a b c d w bi no := putAt_mid (p := []) (x := [.int .i64 ht]) rfl rfl
include ha1
theorem hw_a (x : List Nat) (hx : x.length = 32) : putAt (hda ht a b c d w bi no) 1 (iv x).toList = hda ht x b c d w bi no :=
  putAt_mid (p := [.int .i64 ht]) (x := bys a) rfl (by rw [iv_bys, bys_len, bys_len, ha1, hx])
include hb1
theorem hw_b (x : List Nat) (hx : x.length = 32) : putAt (hda ht a b c d w bi no) 33 (iv x).toList = hda ht a x c d w bi no := by
  have h := putAt_mid (C := hda ht a b c d w bi no) (p := [.int .i64 ht] ++ bys a) (x := bys b) (y := (iv x).toList) (q := bys c ++ (bys d ++ ((wv w).toList ++ ([.int .u32 (bi : Int)] ++ [.int .u64 (no : Int)])))) (by simp [hda, hdl]) (by rw [iv_bys, bys_len, bys_len, hb1, hx])
  rw [show ([Value.int .i64 ht] ++ bys a).length = 33 by simp [bys_len, ha1]] at h
  rw [h]; unfold hda hdl; congr 1 <;> simp [iv_bys]
include hc1
theorem hw_c (x : List Nat) (hx : x.length = 32) : putAt (hda ht a b c d w bi no) 65 (iv x).toList = hda ht a b x d w bi no := by
  have h := putAt_mid (C := hda ht a b c d w bi no) (p := [.int .i64 ht] ++ bys a ++ bys b) (x := bys c) (y := (iv x).toList) (q := bys d ++ ((wv w).toList ++ ([.int .u32 (bi : Int)] ++ [.int .u64 (no : Int)]))) (by simp [hda, hdl]) (by rw [iv_bys, bys_len, bys_len, hc1, hx])
  rw [show ([Value.int .i64 ht] ++ bys a ++ bys b).length = 65 by simp [bys_len, ha1, hb1]] at h
  rw [h]; unfold hda hdl; congr 1 <;> simp [iv_bys]
include hd1
theorem hw_d (x : List Nat) (hx : x.length = 32) : putAt (hda ht a b c d w bi no) 97 (iv x).toList = hda ht a b c x w bi no := by
  have h := putAt_mid (C := hda ht a b c d w bi no) (p := [.int .i64 ht] ++ bys a ++ bys b ++ bys c) (x := bys d) (y := (iv x).toList) (q := (wv w).toList ++ ([.int .u32 (bi : Int)] ++ [.int .u64 (no : Int)])) (by simp [hda, hdl]) (by rw [iv_bys, bys_len, bys_len, hd1, hx])
  rw [show ([Value.int .i64 ht] ++ bys a ++ bys b ++ bys c).length = 97 by simp [bys_len, ha1, hb1, hc1]] at h
  rw [h]; unfold hda hdl; congr 1 <;> simp [iv_bys]
theorem hw_w (x : Nat) : putAt (hda ht a b c d w bi no) 129 (wv x).toList = hda ht a b c d x bi no := by
  have h := putAt_mid (C := hda ht a b c d w bi no) (p := [.int .i64 ht] ++ bys a ++ bys b ++ bys c ++ bys d) (x := (wv w).toList) (y := (wv x).toList) (q := [.int .u32 (bi : Int)] ++ [.int .u64 (no : Int)]) (by simp [hda, hdl]) rfl
  rw [show ([Value.int .i64 ht] ++ bys a ++ bys b ++ bys c ++ bys d).length = 129 by simp [bys_len, ha1, hb1, hc1, hd1]] at h
  rw [h]; unfold hda hdl; congr 1 <;> simp
theorem hw_bi (x : Nat) : putAt (hda ht a b c d w bi no) 133 [.int .u32 (x : Int)] = hda ht a b c d w x no := by
  have h := putAt_mid (C := hda ht a b c d w bi no) (p := [.int .i64 ht] ++ bys a ++ bys b ++ bys c ++ bys d ++ (wv w).toList) (x := [.int .u32 (bi : Int)]) (y := [.int .u32 (x : Int)]) (q := [.int .u64 (no : Int)]) (by simp [hda, hdl]) rfl
  rw [show ([Value.int .i64 ht] ++ bys a ++ bys b ++ bys c ++ bys d ++ (wv w).toList).length = 133 by simp [bys_len, ha1, hb1, hc1, hd1, wv_toList]] at h
  rw [h]; unfold hda hdl; congr 1 <;> simp
theorem hw_no (x : Nat) : putAt (hda ht a b c d w bi no) 134 [.int .u64 (x : Int)] = hda ht a b c d w bi x := by
  have h := putAt_mid (C := hda ht a b c d w bi no) (p := [.int .i64 ht] ++ bys a ++ bys b ++ bys c ++ bys d ++ (wv w).toList ++ [.int .u32 (bi : Int)]) (x := [.int .u64 (no : Int)]) (y := [.int .u64 (x : Int)]) (q := []) (by simp [hda, hdl]) rfl
  rw [show ([Value.int .i64 ht] ++ bys a ++ bys b ++ bys c ++ bys d ++ (wv w).toList ++ [Value.int .u32 (bi : Int)]).length = 134 by simp [bys_len, ha1, hb1, hc1, hd1, wv_toList]] at h
  rw [h]; unfold hda hdl; congr 1 <;> simp
end
end Go.Proofs.Ytommbfgagalckaa
/- Heads: loads, stores, and whether two are the same. -/
namespace Go.Proofs.Ytommbfgagalckaa
open Go.RowKit
set_option maxRecDepth 100000
set_option linter.unusedVariables false
set_option linter.unusedSimpArgs false
theorem rowType_head : Try.prog.rowType 29 135 = true := by kernel_rfl
theorem zero_head : (Try.prog.info? 29).map (·.zero) = some (some (.agg (hda 0 id0 id0 id0 id0 0 0 0))) := by kernel_rfl
theorem size_head : (Try.prog.info? 29).map (·.size) = some 135 := by kernel_rfl
theorem under_head : Try.prog.underlying 29 = some (.struct (Try.prog.fieldsOf 29)) := by kernel_rfl
theorem size_wideH : (Try.prog.info? 26).map (·.size) = some 4 := by kernel_rfl
theorem under_wideH : Try.prog.underlying 26 = some (.array 4 24) := by kernel_rfl
theorem rowType_wideH : Try.prog.rowType 26 4 = true := by kernel_rfl
theorem zero_wideH : (Try.prog.info? 26).map (·.zero) = some (some (.agg (wv 0))) := by kernel_rfl
section
variable (ρ : Operand → Value) (d : Option Tmp) (x y : Operand) (t : TypeId) (p : String) (a : Array Edge) (g : Option (Nat × Bool)) (w : World)
@[go_sem ↓] theorem ex_load_head : execOp ρ ⟨d, .load 29 x, t, p, a, g⟩ = rowLoad 29 (ρ x) := rfl
@[go_sem ↓] theorem ex_store_head : execOp ρ ⟨d, .store 29 x y, t, p, a, g⟩ = rowStore 29 (ρ x) (ρ y) := rfl
@[go_sem ↓] theorem ex_alloc_head : execOp ρ ⟨d, .alloc 29, t, p, a, g⟩ = rowAlloc 29 := rfl
@[go_sem ↓] theorem ex_load_wideH : execOp ρ ⟨d, .load 26 x, t, p, a, g⟩ = rowLoad 26 (ρ x) := rfl
@[go_sem ↓] theorem ex_store_wideH : execOp ρ ⟨d, .store 26 x y, t, p, a, g⟩ = rowStore 26 (ρ x) (ρ y) := rfl
@[go_sem ↓] theorem ex_alloc_wideH : execOp ρ ⟨d, .alloc 26, t, p, a, g⟩ = rowAlloc 26 := rfl
end
@[go_sem] theorem load_head (w : World) (g : Nat) (h : (w.rowAt g).size = 135) : (rowLoad 29 (.pointer (some ⟨g, 0, none⟩))).run Try.prog w = .ok (.value (.agg (w.rowAt g))) w := run_rowLoad w (n := 134) rowType_head h
@[go_sem] theorem store_head (w : World) (g : Nat) (ht : Int) (a b c d : List Nat) (x bi no : Nat) (ha : a.length = 32) (hb : b.length = 32) (hc : c.length = 32) (hd : d.length = 32) (h : (w.rowAt g).size = 135) (hf : w.rowFree g = true) : (rowStore 29 (.pointer (some ⟨g, 0, none⟩)) (.agg (hda ht a b c d x bi no))).run Try.prog w = .ok .skip (w.setRow g (hda ht a b c d x bi no)) := run_rowStore w (n := 135) rowType_head hf h (hda_size ht a b c d x bi no ha hb hc hd) (hdl_one ht a b c d x bi no)
@[go_sem] theorem alloc_head (w : World) : (rowAlloc 29).run Try.prog w = .ok (.value (.pointer (some ⟨w.heap.size, 0, none⟩))) (w.alloc (.cells (hda 0 id0 id0 id0 id0 0 0 0) 29)) := run_rowAlloc w zero_head
theorem wv_oneH (x : Nat) : (wv x).all (·.oneCell') = true := by simp [wv, Value.oneCell']
@[go_sem] theorem load_wideH (w : World) (g : Nat) (h : (w.rowAt g).size = 4) : (rowLoad 26 (.pointer (some ⟨g, 0, none⟩))).run Try.prog w = .ok (.value (.agg (w.rowAt g))) w := run_rowLoad w (n := 3) rowType_wideH h
@[go_sem] theorem store_wideH (w : World) (g : Nat) (x : Nat) (h : (w.rowAt g).size = 4) (hf : w.rowFree g = true) : (rowStore 26 (.pointer (some ⟨g, 0, none⟩)) (.agg (wv x))).run Try.prog w = .ok .skip (w.setRow g (wv x)) := run_rowStore w (n := 4) rowType_wideH hf h rfl (wv_oneH x)
@[go_sem] theorem alloc_wideH (w : World) : (rowAlloc 26).run Try.prog w = .ok (.value (.pointer (some ⟨w.heap.size, 0, none⟩))) (w.alloc (.cells (wv 0) 26)) := run_rowAlloc w zero_wideH
/-- The fields of a head that lies in a block of its own. -/
def hdF (C : Array Value) (o : Nat) : Array Value := ((C.toList.drop o).take 32).toArray
def hdW (C : Array Value) : Array Value := ((C.toList.drop 129).take 4).toArray
section
variable (ht : Int) (a b c d : List Nat) (w bi no : Nat) (ha1 : a.length = 32) (hb1 : b.length = 32) (hc1 : c.length = 32) (hd1 : d.length = 32)
include ha1 hb1 hc1 hd1
@[go_sem] theorem hdF_1 : hdF (hda ht a b c d w bi no) 1 = iv a := by unfold hdF hda; rw [hdl_a ht a b c d w bi no ha1 hb1 hc1 hd1]; rfl
@[go_sem] theorem hdF_33 : hdF (hda ht a b c d w bi no) 33 = iv b := by unfold hdF hda; rw [hdl_b ht a b c d w bi no ha1 hb1 hc1 hd1]; rfl
@[go_sem] theorem hdF_65 : hdF (hda ht a b c d w bi no) 65 = iv c := by unfold hdF hda; rw [hdl_c ht a b c d w bi no ha1 hb1 hc1 hd1]; rfl
@[go_sem] theorem hdF_97 : hdF (hda ht a b c d w bi no) 97 = iv d := by unfold hdF hda; rw [hdl_d ht a b c d w bi no ha1 hb1 hc1 hd1]; rfl
@[go_sem] theorem hdW_hda : hdW (hda ht a b c d w bi no) = wv w := by unfold hdW hda; rw [hdl_w ht a b c d w bi no ha1 hb1 hc1 hd1]
end
theorem load_hdF (w : World) (g o : Nat) (ho : o + 32 ≤ 135) (h : (w.rowAt g).size = 135) : (rowLoad 23 (.pointer (some ⟨g, o, none⟩))).run Try.prog w = .ok (.value (.agg (hdF (w.rowAt g) o))) w := by
  refine load_part (by simp [h]; omega) fun j v hj => ?_
  have hj2 := (List.getElem?_eq_some_iff.1 hj).1
  rw [List.getElem?_take, if_pos (by simp at hj2; omega), List.getElem?_drop] at hj
  rw [cell_rowAt]
  simpa using hj
@[go_sem] theorem load_hdF1 (w : World) (g : Nat) (h : (w.rowAt g).size = 135) : (rowLoad 23 (.pointer (some ⟨g, 1, none⟩))).run Try.prog w = .ok (.value (.agg (hdF (w.rowAt g) 1))) w := load_hdF w g 1 (by omega) h
@[go_sem] theorem load_hdF33 (w : World) (g : Nat) (h : (w.rowAt g).size = 135) : (rowLoad 23 (.pointer (some ⟨g, 33, none⟩))).run Try.prog w = .ok (.value (.agg (hdF (w.rowAt g) 33))) w := load_hdF w g 33 (by omega) h
@[go_sem] theorem load_hdF65 (w : World) (g : Nat) (h : (w.rowAt g).size = 135) : (rowLoad 23 (.pointer (some ⟨g, 65, none⟩))).run Try.prog w = .ok (.value (.agg (hdF (w.rowAt g) 65))) w := load_hdF w g 65 (by omega) h
@[go_sem] theorem load_hdF97 (w : World) (g : Nat) (h : (w.rowAt g).size = 135) : (rowLoad 23 (.pointer (some ⟨g, 97, none⟩))).run Try.prog w = .ok (.value (.agg (hdF (w.rowAt g) 97))) w := load_hdF w g 97 (by omega) h
theorem load_partWH {w : World} {g o : Nat} {cs : List Value} (hl : cs.length = 4) (h : w.rangeAt g o cs) : (rowLoad 26 (.pointer (some ⟨g, o, none⟩))).run Try.prog w = .ok (.value (.agg cs.toArray)) w := by
  unfold rowLoad
  rw [Sem.run_bind, run_loadAt_mid w g o 26 cs _ h under_wideH rfl (by rw [hl]; exact size_wideH)]
  rfl
@[go_sem] theorem load_hdW (w : World) (g : Nat) (h : (w.rowAt g).size = 135) : (rowLoad 26 (.pointer (some ⟨g, 129, none⟩))).run Try.prog w = .ok (.value (.agg (hdW (w.rowAt g)))) w := by
  refine load_partWH (by simp [h]) fun j v hj => ?_
  have hj2 := (List.getElem?_eq_some_iff.1 hj).1
  rw [List.getElem?_take, if_pos (by simp at hj2; omega), List.getElem?_drop] at hj
  rw [cell_rowAt]
  simpa using hj
/-- A field is stored. -/
@[go_sem] theorem store_hd1 (w : World) (g : Nat) (l : List Nat) (hl : l.length = 32) (h : (w.rowAt g).size = 135) (hf : w.rowFree g = true) : (rowStore 23 (.pointer (some ⟨g, 1, none⟩)) (.agg (iv l))).run Try.prog w = .ok .skip (w.setRow g (putAt (w.rowAt g) 1 (iv l).toList)) := store_part hl hf (by omega)
@[go_sem] theorem store_hd33 (w : World) (g : Nat) (l : List Nat) (hl : l.length = 32) (h : (w.rowAt g).size = 135) (hf : w.rowFree g = true) : (rowStore 23 (.pointer (some ⟨g, 33, none⟩)) (.agg (iv l))).run Try.prog w = .ok .skip (w.setRow g (putAt (w.rowAt g) 33 (iv l).toList)) := store_part hl hf (by omega)
@[go_sem] theorem store_hd65 (w : World) (g : Nat) (l : List Nat) (hl : l.length = 32) (h : (w.rowAt g).size = 135) (hf : w.rowFree g = true) : (rowStore 23 (.pointer (some ⟨g, 65, none⟩)) (.agg (iv l))).run Try.prog w = .ok .skip (w.setRow g (putAt (w.rowAt g) 65 (iv l).toList)) := store_part hl hf (by omega)
@[go_sem] theorem store_hd97 (w : World) (g : Nat) (l : List Nat) (hl : l.length = 32) (h : (w.rowAt g).size = 135) (hf : w.rowFree g = true) : (rowStore 23 (.pointer (some ⟨g, 97, none⟩)) (.agg (iv l))).run Try.prog w = .ok .skip (w.setRow g (putAt (w.rowAt g) 97 (iv l).toList)) := store_part hl hf (by omega)
@[go_sem] theorem store_hdW (w : World) (g : Nat) (x : Nat) (h : (w.rowAt g).size = 135) (hf : w.rowFree g = true) : (rowStore 26 (.pointer (some ⟨g, 129, none⟩)) (.agg (wv x))).run Try.prog w = .ok .skip (w.setRow g (putAt (w.rowAt g) 129 (wv x).toList)) := by
  have hs : (wv x).size = 4 := rfl
  unfold rowStore
  rw [Sem.run_bind, run_storeAt_mid w g 129 26 (wv x) (there_row hf (by rw [hs]; omega)) (by rw [hs]; exact size_wideH) (wv_oneH x), setCells_row _ _ _ _ hf]
  rfl
section
variable (ht : Int) (a b c d : List Nat) (w bi no : Nat) (ha1 : a.length = 32) (hb1 : b.length = 32) (hc1 : c.length = 32) (hd1 : d.length = 32)
@[go_sem] theorem set_ht (x : Int) : (hda ht a b c d w bi no).setIfInBounds 0 (.int .i64 x) = hda x a b c d w bi no := hw_ht ht a b c d w bi no x
include ha1 hb1 hc1 hd1
@[go_sem] theorem set_bi (x : Nat) : (hda ht a b c d w bi no).setIfInBounds 133 (.int .u32 (x : Int)) = hda ht a b c d w x no := hw_bi ht a b c d w bi no ha1 hb1 hc1 hd1 x
@[go_sem] theorem set_no (x : Nat) : (hda ht a b c d w bi no).setIfInBounds 134 (.int .u64 (x : Int)) = hda ht a b c d w bi x := hw_no ht a b c d w bi no ha1 hb1 hc1 hd1 x
end
attribute [go_sem] hw_a hw_b hw_c hw_d hw_w
/-- Are two heads the same? -/
def Hd.eq (x y : Hd) : Bool := decide (x.ht = y.ht) && (ieq x.a.l y.a.l && (ieq x.b.l y.b.l && (ieq x.c.l y.c.l && (ieq x.d.l y.d.l && (weq x.w.n y.w.n && (decide (x.bi = y.bi) && (decide (x.no = y.no) && true)))))))
theorem Hd.eq_iff (x y : Hd) : Hd.eq x y = true ↔ x = y := by
  unfold Hd.eq ieq
  simp only [Bool.and_eq_true, decide_eq_true_eq, Wd.weq, and_true]
  constructor
  · rintro ⟨h0, h1, h2, h3, h4, h5, h6, h7⟩
    exact Hd.ext' h0 (Idb.ext' h1) (Idb.ext' h2) (Idb.ext' h3) (Idb.ext' h4) (Wd.ext' (by simpa using h5)) h6 h7
  · rintro rfl
    exact ⟨rfl, rfl, rfl, rfl, rfl, by simp, rfl, rfl⟩
theorem fields_head : (Try.prog.fieldsOf 29).toList.map (fun f => (f.name, f.type, f.offset)) = [("Height", 3, 0), ("Prev", 23, 1), ("Links", 23, 33), ("Txs", 23, 65), ("Past", 23, 97), ("Work", 26, 129), ("Bits", 27, 133), ("Nonce", 24, 134)] := by kernel_rfl
theorem part_idAt {C : Array Value} {o : Nat} {l : List Nat} (h : (C.toList.drop o).take 32 = bys l) (w : World) : (part 23 C o).run Try.prog w = .ok (.agg (iv l)) w := by
  have hs : (sizeOf 23).run Try.prog w = .ok 32 w := by
    have := size_id
    cases hq : Try.prog.info? 23 with
    | none => rw [hq] at this; cases this
    | some i => simp [hq] at this; simp [sizeOf, typeInfo, hq, this]
  have ha : (isAgg 23).run Try.prog w = .ok true w := by unfold isAgg; rw [Sem.run_bind, run_underlying under_id w]; rfl
  have he : C.extract o (o + 32) = iv l := by
    refine arr_ext ?_
    rw [Array.toList_extract, iv_bys, ← h]
    simp [List.extract_eq_take_drop]
  simp [part, Sem.run_bind, ha, hs, he]
theorem part_wdAt {C : Array Value} {o : Nat} {x : Nat} (h : (C.toList.drop o).take 4 = (wv x).toList) (w : World) : (part 26 C o).run Try.prog w = .ok (.agg (wv x)) w := by
  have hs : (sizeOf 26).run Try.prog w = .ok 4 w := by
    have := size_wideH
    cases hq : Try.prog.info? 26 with
    | none => rw [hq] at this; cases this
    | some i => simp [hq] at this; simp [sizeOf, typeInfo, hq, this]
  have ha : (isAgg 26).run Try.prog w = .ok true w := by unfold isAgg; rw [Sem.run_bind, run_underlying under_wideH w]; rfl
  have he : C.extract o (o + 4) = wv x := by
    refine arr_ext ?_
    rw [Array.toList_extract, ← h]
    simp [List.extract_eq_take_drop]
  simp [part, Sem.run_bind, ha, hs, he]
theorem part_intAt {t : TypeId} {k : IntKind} {C : Array Value} {o : Nat} {v : Value} (hu : Try.prog.underlying t = some (.int k)) (h : C[o]? = some v) (w : World) : (part t C o).run Try.prog w = .ok v w := by
  have ha : (isAgg t).run Try.prog w = .ok false w := by unfold isAgg; rw [Sem.run_bind, run_underlying hu w]; rfl
  simp [part, Sem.run_bind, ha, h]
theorem equal_idH (d : Nat) (a b : List Nat) (ha : a.length = 32) (hb : b.length = 32) (w : World) : (Op.equalIn (d + 2) 23 (.agg (iv a)) (.agg (iv b))).run Try.prog w = .ok (ieq a b) w := by
  have e : ∀ l : List Nat, iv l = ((l.map fun (c : Nat) => (c : Int)).map (Value.int .u8)).toArray := fun l => by simp [iv]
  rw [e, e, run_equalIn_ints w d under_id Try.underlying5 (by kernel_rfl) _ _ (by simp [ha]) (by simp [hb])]
  congr 1
  unfold ieq
  rw [Bool.eq_iff_iff, decide_eq_true_eq, decide_eq_true_eq]
  constructor
  · intro h
    refine (List.map_inj_right ?_).1 h
    intro x y e
    omega
  · intro h; rw [h]
theorem equal_wideH (d : Nat) (a b : Nat) (w : World) : (Op.equalIn (d + 2) 26 (.agg (wv a)) (.agg (wv b))).run Try.prog w = .ok (weq a b) w := by
  rw [cells_wide, cells_wide, run_equalIn_ints w d Try.underlying26 Try.underlying24 (by kernel_rfl) _ _ rfl rfl]
  congr 1
  unfold weq
  rw [Bool.eq_iff_iff, decide_eq_true_eq, decide_eq_true_eq]
  constructor
  · intro h
    simp only [List.cons.injEq, and_true] at h
    exact lb_inj (by omega) (by omega) (by omega) (by omega)
  · intro h
    obtain ⟨h0, h1, h2, h3⟩ := lb_congr h
    rw [h0, h1, h2, h3]
theorem held_head : Try.prog.stoodInHeld 29 = false := by kernel_rfl
theorem eqFields_step {d : Nat} {xs ys : Array Value} {f : Field} {fs : List Field} {x y : Value} {b r : Bool} {w : World} (hn : f.name ≠ "_") (hx : (part f.type xs f.offset).run Try.prog w = .ok x w) (hy : (part f.type ys f.offset).run Try.prog w = .ok y w)
    (he : (Op.equalIn d f.type x y).run Try.prog w = .ok b w) (hr : (Op.eqFields d xs ys fs).run Try.prog w = .ok r w) : (Op.eqFields d xs ys (f :: fs)).run Try.prog w = .ok (b && r) w := by
  simp only [Op.eqFields, ne_eq, hn, not_false_eq_true, if_true, Sem.run_bind, hx, hy, he, Result.andThen_ok]
  cases b
  · simp
  · simpa using hr
theorem equal_head (x y : Hd) (w : World) : (Op.equalIn 10000 29 (.agg (hda x.ht x.a.l x.b.l x.c.l x.d.l x.w.n x.bi x.no)) (.agg (hda y.ht y.a.l y.b.l y.c.l y.d.l y.w.n y.bi y.no))).run Try.prog w = .ok (Hd.eq x y) w := by
  have hf := fields_head
  rw [show (10000 : Nat) = 9999 + 1 from rfl, run_equalIn_struct w 9999 29 _ _ under_head held_head]
  obtain ⟨fs, hfs⟩ : ∃ fs, (Try.prog.fieldsOf 29).toList = fs := ⟨_, rfl⟩
  rw [hfs] at hf ⊢
  match fs, hf with
  | [f0, f1, f2, f3, f4, f5, f6, f7], hf =>
    simp only [List.map_cons, List.map_nil, List.cons.injEq, Prod.mk.injEq, and_true] at hf
    obtain ⟨⟨n0, t0, o0⟩, ⟨n1, t1, o1⟩, ⟨n2, t2, o2⟩, ⟨n3, t3, o3⟩, ⟨n4, t4, o4⟩, ⟨n5, t5, o5⟩, ⟨n6, t6, o6⟩, ⟨n7, t7, o7⟩⟩ := hf
    have P : ∀ z : Hd, (hda z.ht z.a.l z.b.l z.c.l z.d.l z.w.n z.bi z.no).toList = hdl z.ht z.a.l z.b.l z.c.l z.d.l z.w.n z.bi z.no := fun z => rfl
    have pi : ∀ (z : Hd), (part 23 (hda z.ht z.a.l z.b.l z.c.l z.d.l z.w.n z.bi z.no) 1).run Try.prog w = .ok (.agg (iv z.a.l)) w ∧ (part 23 (hda z.ht z.a.l z.b.l z.c.l z.d.l z.w.n z.bi z.no) 33).run Try.prog w = .ok (.agg (iv z.b.l)) w ∧ (part 23 (hda z.ht z.a.l z.b.l z.c.l z.d.l z.w.n z.bi z.no) 65).run Try.prog w = .ok (.agg (iv z.c.l)) w ∧ (part 23 (hda z.ht z.a.l z.b.l z.c.l z.d.l z.w.n z.bi z.no) 97).run Try.prog w = .ok (.agg (iv z.d.l)) w ∧ (part 26 (hda z.ht z.a.l z.b.l z.c.l z.d.l z.w.n z.bi z.no) 129).run Try.prog w = .ok (.agg (wv z.w.n)) w ∧ (part 3 (hda z.ht z.a.l z.b.l z.c.l z.d.l z.w.n z.bi z.no) 0).run Try.prog w = .ok (.int .i64 z.ht) w ∧ (part 27 (hda z.ht z.a.l z.b.l z.c.l z.d.l z.w.n z.bi z.no) 133).run Try.prog w = .ok (.int .u32 z.bi) w ∧ (part 24 (hda z.ht z.a.l z.b.l z.c.l z.d.l z.w.n z.bi z.no) 134).run Try.prog w = .ok (.int .u64 z.no) w := fun z =>
      ⟨part_idAt (hdl_a _ _ _ _ _ _ _ _ z.a.len z.b.len z.c.len z.d.len) w, part_idAt (hdl_b _ _ _ _ _ _ _ _ z.a.len z.b.len z.c.len z.d.len) w, part_idAt (hdl_c _ _ _ _ _ _ _ _ z.a.len z.b.len z.c.len z.d.len) w, part_idAt (hdl_d _ _ _ _ _ _ _ _ z.a.len z.b.len z.c.len z.d.len) w,
        part_wdAt (hdl_w _ _ _ _ _ _ _ _ z.a.len z.b.len z.c.len z.d.len) w, part_intAt Try.underlying3 (hda_0 _ _ _ _ _ _ _ _ z.a.len z.b.len z.c.len z.d.len) w, part_intAt Try.underlying27 (hda_133 _ _ _ _ _ _ _ _ z.a.len z.b.len z.c.len z.d.len) w, part_intAt Try.underlying24 (hda_134 _ _ _ _ _ _ _ _ z.a.len z.b.len z.c.len z.d.len) w⟩
    obtain ⟨a1, a2, a3, a4, a5, a6, a7, a8⟩ := pi x
    obtain ⟨b1, b2, b3, b4, b5, b6, b7, b8⟩ := pi y
    have ei : ∀ (t : TypeId) (k : IntKind) (i j : Int), Try.prog.underlying t = some (.int k) → (Op.equalIn 9999 t (.int k i) (.int k j)).run Try.prog w = .ok (decide (i = j)) w := fun t k i j hu => by
      rw [show (9999 : Nat) = 9998 + 1 from rfl, run_equalIn_int w 9998 t k k i j hu]
      congr 1
    have dn : ∀ i j : Nat, decide (((i : Nat) : Int) = ((j : Nat) : Int)) = decide (i = j) := fun i j => by rw [Bool.eq_iff_iff, decide_eq_true_eq, decide_eq_true_eq]; omega
    unfold Hd.eq
    refine eqFields_step (by rw [n0]; decide) (by rw [t0, o0]; exact a6) (by rw [t0, o0]; exact b6) (by rw [t0]; exact ei _ _ _ _ Try.underlying3) ?_
    refine eqFields_step (by rw [n1]; decide) (by rw [t1, o1]; exact a1) (by rw [t1, o1]; exact b1) (by rw [t1]; exact equal_idH 9997 _ _ x.a.len y.a.len w) ?_
    refine eqFields_step (by rw [n2]; decide) (by rw [t2, o2]; exact a2) (by rw [t2, o2]; exact b2) (by rw [t2]; exact equal_idH 9997 _ _ x.b.len y.b.len w) ?_
    refine eqFields_step (by rw [n3]; decide) (by rw [t3, o3]; exact a3) (by rw [t3, o3]; exact b3) (by rw [t3]; exact equal_idH 9997 _ _ x.c.len y.c.len w) ?_
    refine eqFields_step (by rw [n4]; decide) (by rw [t4, o4]; exact a4) (by rw [t4, o4]; exact b4) (by rw [t4]; exact equal_idH 9997 _ _ x.d.len y.d.len w) ?_
    refine eqFields_step (by rw [n5]; decide) (by rw [t5, o5]; exact a5) (by rw [t5, o5]; exact b5) (by rw [t5]; exact equal_wideH 9997 _ _ w) ?_
    refine eqFields_step (by rw [n6]; decide) (by rw [t6, o6]; exact a7) (by rw [t6, o6]; exact b7) (by rw [t6, ← dn]; exact ei _ _ _ _ Try.underlying27) ?_
    refine eqFields_step (by rw [n7]; decide) (by rw [t7, o7]; exact a8) (by rw [t7, o7]; exact b8) (by rw [t7, ← dn]; exact ei _ _ _ _ Try.underlying24) ?_
    rfl
@[go_sem ↓] theorem eql_head (a b : Hd) (w : World) : (binOp .eql 29 (.agg (hda a.ht a.a.l a.b.l a.c.l a.d.l a.w.n a.bi a.no)) (.agg (hda b.ht b.a.l b.b.l b.c.l b.d.l b.w.n b.bi b.no))).run Try.prog w = .ok (.bool (Hd.eq a b)) w := by
  rw [run_eql_struct, equal_head]; rfl
@[go_sem ↓] theorem neq_head (a b : Hd) (w : World) : (binOp .neq 29 (.agg (hda a.ht a.a.l a.b.l a.c.l a.d.l a.w.n a.bi a.no)) (.agg (hda b.ht b.a.l b.b.l b.c.l b.d.l b.w.n b.bi b.no))).run Try.prog w = .ok (.bool (!Hd.eq a b)) w := by
  rw [run_neq_struct, equal_head]; rfl
@[go_sem] theorem guard_head : Try.prog.eqGuardType Try.prog.depth 29 = false := by kernel_rfl
theorem head_result {fn : Func} {p : Tmp} {g : Nat} {w : World} {h : Hd} (hr : fn.results = #[.cell p 29]) (tmps : Array Value) (hp : tmps.getD p undef = .pointer (some ⟨g, 0, none⟩)) (hw : w.rowAt g = hda h.ht h.a.l h.b.l h.c.l h.d.l h.w.n h.bi h.no) :
    (results fn tmps).run Try.prog w = .ok (.agg (hda h.ht h.a.l h.b.l h.c.l h.d.l h.w.n h.bi h.no)) w := by
  have := run_result_row w (n := 134) hr tmps hp rowType_head (by rw [hw, hda_size _ _ _ _ _ _ _ _ h.a.len h.b.len h.c.len h.d.len])
  rwa [hw] at this
end Go.Proofs.Ytommbfgagalckaa
/- Heads as bytes, and back. No program in sight. -/
namespace Go.Proofs.Ytommbfgagalckaa
set_option linter.unusedVariables false
set_option linter.unusedSimpArgs false
open Go.RowKit
set_option maxRecDepth 100000
def Idb.of (l : List Nat) : Idb := if h : l.length = 32 ∧ ∀ c ∈ l, c < 256 then ⟨l, h.1, h.2⟩ else Idb.zero
theorem Idb.of_l {l : List Nat} (h1 : l.length = 32) (h2 : ∀ c ∈ l, c < 256) : (Idb.of l).l = l := by unfold Idb.of; rw [dif_pos ⟨h1, h2⟩]
theorem Idb.of_id (x : Idb) : Idb.of x.l = x := Idb.ext' (Idb.of_l x.len x.lt)
/-- Some places of a list. -/
def cutL (l : List Nat) (a n : Nat) : List Nat := (l.drop a).take n
theorem cut_mid {l p x q : List Nat} (h : l = p ++ (x ++ q)) : cutL l p.length x.length = x := by
  rw [h]; unfold cutL; rw [List.drop_left' rfl, List.take_left' rfl]
theorem cutL_len {l : List Nat} {a n : Nat} (h : a + n ≤ l.length) : (cutL l a n).length = n := by unfold cutL; rw [List.length_take, List.length_drop]; omega
theorem cutL_lt {l : List Nat} (h : ∀ c ∈ l, c < 256) (a n : Nat) : ∀ c ∈ cutL l a n, c < 256 := fun c hc => h c (List.mem_of_mem_drop (List.mem_of_mem_take hc))
theorem cutL_next (l : List Nat) (a n m : Nat) : (l.drop a) = cutL l a n ++ l.drop (a + n) := by
  unfold cutL; rw [← List.drop_drop, List.take_append_drop]
/-- A head's bytes. -/
def hputL (h : Hd) : List Nat := putL h.ht.toNat 4 ++ (h.a.l ++ (h.b.l ++ (h.c.l ++ (h.d.l ++ (h.w.id.l ++ (putL h.bi 4 ++ putL h.no 8))))))
/-- May it be put? -/
def hok (h : Hd) : Bool := decide (0 ≤ h.ht ∧ h.ht ≤ 1048576)
theorem hputL_len (h : Hd) : (hputL h).length = 176 := by simp [hputL, putL_len, h.a.len, h.b.len, h.c.len, h.d.len, h.w.id.len]
theorem hputL_lt (h : Hd) : ∀ c ∈ hputL h, c < 256 := by
  intro c hc
  simp only [hputL, List.mem_append] at hc
  rcases hc with h1 | h1 | h1 | h1 | h1 | h1 | h1 | h1
  · exact putL_lt _ _ c h1
  · exact h.a.lt c h1
  · exact h.b.lt c h1
  · exact h.c.lt c h1
  · exact h.d.lt c h1
  · exact h.w.id.lt c h1
  · exact putL_lt _ _ c h1
  · exact putL_lt _ _ c h1
theorem num_ht {l : List Nat} (h : numL (cutL l 0 4) ≤ 1048576) : -9223372036854775808 ≤ ((numL (cutL l 0 4) : Nat) : Int) ∧ ((numL (cutL l 0 4) : Nat) : Int) ≤ 9223372036854775807 := by omega
/-- What bytes are, if they are. -/
noncomputable def hread (l : List Nat) : Option Hd :=
  if h : l.length = 176 ∧ numL (cutL l 0 4) ≤ 1048576 then
    some ⟨((numL (cutL l 0 4) : Nat) : Int), Idb.of (cutL l 4 32), Idb.of (cutL l 36 32), Idb.of (cutL l 68 32), Idb.of (cutL l 100 32), (Idb.of (cutL l 132 32)).w, numL (cutL l 164 4) % 4294967296, numL (cutL l 168 8) % 18446744073709551616, (num_ht h.2).1, (num_ht h.2).2, Nat.mod_lt _ (by decide), Nat.mod_lt _ (by decide)⟩
  else none
theorem hread_none {l : List Nat} (h : ¬ (l.length = 176 ∧ numL (cutL l 0 4) ≤ 1048576)) : hread l = none := by unfold hread; rw [dif_neg h]
theorem hput_cuts (h : Hd) : cutL (hputL h) 0 4 = putL h.ht.toNat 4 ∧ cutL (hputL h) 4 32 = h.a.l ∧ cutL (hputL h) 36 32 = h.b.l ∧ cutL (hputL h) 68 32 = h.c.l ∧ cutL (hputL h) 100 32 = h.d.l ∧ cutL (hputL h) 132 32 = h.w.id.l ∧ cutL (hputL h) 164 4 = putL h.bi 4 ∧ cutL (hputL h) 168 8 = putL h.no 8 := by
  have key : ∀ (p x q : List Nat) (a n : Nat), hputL h = p ++ (x ++ q) → p.length = a → x.length = n → cutL (hputL h) a n = x := fun p x q a n e hp hx => by rw [← hp, ← hx]; exact cut_mid e
  have l0 := putL_len h.ht.toNat 4
  have l6 := putL_len h.bi 4
  have l7 := putL_len h.no 8
  refine ⟨key [] _ (h.a.l ++ (h.b.l ++ (h.c.l ++ (h.d.l ++ (h.w.id.l ++ (putL h.bi 4 ++ putL h.no 8)))))) _ _ rfl rfl l0, key (putL h.ht.toNat 4) h.a.l (h.b.l ++ (h.c.l ++ (h.d.l ++ (h.w.id.l ++ (putL h.bi 4 ++ putL h.no 8))))) _ _ rfl l0 h.a.len,
    key (putL h.ht.toNat 4 ++ h.a.l) h.b.l (h.c.l ++ (h.d.l ++ (h.w.id.l ++ (putL h.bi 4 ++ putL h.no 8)))) _ _ (by simp [hputL]) (by simp [l0, h.a.len]) h.b.len,
    key (putL h.ht.toNat 4 ++ h.a.l ++ h.b.l) h.c.l (h.d.l ++ (h.w.id.l ++ (putL h.bi 4 ++ putL h.no 8))) _ _ (by simp [hputL]) (by simp [l0, h.a.len, h.b.len]) h.c.len,
    key (putL h.ht.toNat 4 ++ h.a.l ++ h.b.l ++ h.c.l) h.d.l (h.w.id.l ++ (putL h.bi 4 ++ putL h.no 8)) _ _ (by simp [hputL]) (by simp [l0, h.a.len, h.b.len, h.c.len]) h.d.len,
    key (putL h.ht.toNat 4 ++ h.a.l ++ h.b.l ++ h.c.l ++ h.d.l) h.w.id.l (putL h.bi 4 ++ putL h.no 8) _ _ (by simp [hputL]) (by simp [l0, h.a.len, h.b.len, h.c.len, h.d.len]) h.w.id.len,
    key (putL h.ht.toNat 4 ++ h.a.l ++ h.b.l ++ h.c.l ++ h.d.l ++ h.w.id.l) (putL h.bi 4) (putL h.no 8) _ _ (by simp [hputL]) (by simp [l0, h.a.len, h.b.len, h.c.len, h.d.len, h.w.id.len]) l6,
    key (putL h.ht.toNat 4 ++ h.a.l ++ h.b.l ++ h.c.l ++ h.d.l ++ h.w.id.l ++ putL h.bi 4) (putL h.no 8) [] _ _ (by simp [hputL]) (by simp [l0, l6, h.a.len, h.b.len, h.c.len, h.d.len, h.w.id.len]) l7⟩
/-- What is put is read as it. -/
theorem hread_put (h : Hd) (ho : hok h = true) : hread (hputL h) = some h := by
  have ho := of_decide_eq_true ho
  obtain ⟨e0, e1, e2, e3, e4, e5, e6, e7⟩ := hput_cuts h
  have n0 : numL (cutL (hputL h) 0 4) = h.ht.toNat := by rw [e0]; exact num_put_lt (show h.ht.toNat < 256 ^ 4 by omega)
  have n6 : numL (cutL (hputL h) 164 4) = h.bi := by rw [e6]; exact num_put_lt (show h.bi < 256 ^ 4 from h.hb)
  have n7 : numL (cutL (hputL h) 168 8) = h.no := by rw [e7]; exact num_put_lt (show h.no < 256 ^ 8 from h.hn)
  unfold hread
  rw [dif_pos ⟨hputL_len h, by rw [n0]; omega⟩]
  congr 1
  refine Hd.ext' ?_ ?_ ?_ ?_ ?_ ?_ ?_ ?_
  · show ((numL (cutL (hputL h) 0 4) : Nat) : Int) = h.ht
    rw [n0]; omega
  · show Idb.of (cutL (hputL h) 4 32) = h.a
    rw [e1, Idb.of_id]
  · show Idb.of (cutL (hputL h) 36 32) = h.b
    rw [e2, Idb.of_id]
  · show Idb.of (cutL (hputL h) 68 32) = h.c
    rw [e3, Idb.of_id]
  · show Idb.of (cutL (hputL h) 100 32) = h.d
    rw [e4, Idb.of_id]
  · show (Idb.of (cutL (hputL h) 132 32)).w = h.w
    rw [e5, Idb.of_id]
    exact Wd.ext' (Wd.id_w h.w)
  · show numL (cutL (hputL h) 164 4) % 4294967296 = h.bi
    rw [n6, Nat.mod_eq_of_lt h.hb]
  · show numL (cutL (hputL h) 168 8) % 18446744073709551616 = h.no
    rw [n7, Nat.mod_eq_of_lt h.hn]
theorem id_of_w (x : Idb) : x.w.id.l = x.l := by
  show bytesN x.w.n = x.l
  rw [Idb.w_n]
  exact numB_inj (by rw [bytesN_length, x.len]) (bytesN_lt _) x.lt (numB_bytesN _ (numB_lt256 x.l x.len x.lt))
/-- What is read may be put, as the same bytes. -/
theorem hput_read {l : List Nat} {h : Hd} (hl : ∀ c ∈ l, c < 256) (e : hread l = some h) : hok h = true ∧ hputL h = l := by
  by_cases hc : l.length = 176 ∧ numL (cutL l 0 4) ≤ 1048576
  · unfold hread at e
    rw [dif_pos hc] at e
    obtain ⟨h1, h2⟩ := hc
    simp only [Option.some.injEq] at e
    have lens : ∀ a n, a + n ≤ 176 → (cutL l a n).length = n := fun a n h => cutL_len (by rw [h1]; exact h)
    have lts := cutL_lt hl
    have ids : ∀ a, a + 32 ≤ 176 → (Idb.of (cutL l a 32)).l = cutL l a 32 := fun a h => Idb.of_l (lens a 32 h) (lts a 32)
    have b4 : numL (cutL l 164 4) < 4294967296 := numL_lt 4 _ (lens 164 4 (by omega)) (lts 164 4)
    have b8 : numL (cutL l 168 8) < 18446744073709551616 := numL_lt 8 _ (lens 168 8 (by omega)) (lts 168 8)
    subst e
    refine ⟨decide_eq_true ⟨by show (0 : Int) ≤ ((numL (cutL l 0 4) : Nat) : Int); omega, by show ((numL (cutL l 0 4) : Nat) : Int) ≤ 1048576; omega⟩, ?_⟩
    show putL ((numL (cutL l 0 4) : Nat) : Int).toNat 4 ++ ((Idb.of (cutL l 4 32)).l ++ ((Idb.of (cutL l 36 32)).l ++ ((Idb.of (cutL l 68 32)).l ++ ((Idb.of (cutL l 100 32)).l ++ ((Idb.of (cutL l 132 32)).w.id.l ++ (putL (numL (cutL l 164 4) % 4294967296) 4 ++ putL (numL (cutL l 168 8) % 18446744073709551616) 8)))))) = l
    rw [id_of_w, ids 4 (by omega), ids 36 (by omega), ids 68 (by omega), ids 100 (by omega), ids 132 (by omega), Int.toNat_natCast, Nat.mod_eq_of_lt b4, Nat.mod_eq_of_lt b8,
      put_num 4 _ (lens 0 4 (by omega)) (lts 0 4), put_num 4 _ (lens 164 4 (by omega)) (lts 164 4), put_num 8 _ (lens 168 8 (by omega)) (lts 168 8)]
    have s0 := cutL_next l 0 4 4
    have s1 := cutL_next l 4 32 32
    have s2 := cutL_next l 36 32 32
    have s3 := cutL_next l 68 32 32
    have s4 := cutL_next l 100 32 32
    have s5 := cutL_next l 132 32 32
    have s6 := cutL_next l 164 4 4
    have s7 := cutL_next l 168 8 8
    simp only [Nat.reduceAdd] at s0 s1 s2 s3 s4 s5 s6 s7
    rw [List.drop_of_length_le (show l.length ≤ 176 by omega), List.append_nil] at s7
    rw [← s7, ← s6, ← s5, ← s4, ← s3, ← s2, ← s1, ← s0, List.drop_zero]
  · rw [hread_none hc] at e; cases e
theorem hput_inj {h g : Hd} (h1 : hok h = true) (h2 : hok g = true) (e : hputL h = hputL g) : h = g := by
  have := hread_put h h1
  rw [e, hread_put g h2] at this
  exact (Option.some.inj this).symm
end Go.Proofs.Ytommbfgagalckaa
/- Arguments that are heads, opened. -/
namespace Go.Proofs.Ytommbfgagalckaa
set_option linter.unusedVariables false
set_option linter.unusedSimpArgs false
open Go.ChangeShapes Go.WideShapes Go.ChangeAt Go.RowKit
set_option maxRecDepth 100000
theorem cellsHd : Try.prog.cellsOf 29 = 135 := by kernel_rfl
theorem cellsU32 : Try.prog.cellsOf 27 = 1 := by kernel_rfl
theorem u32_nat' {a : Int} (h : (Lit.int .u32 a).wf = true) : ∃ n : Nat, a = n ∧ n < 4294967296 := by
  have hx : 0 ≤ a ∧ a ≤ 4294967295 := by simpa [Lit.wf, IntKind.min, IntKind.max, IntKind.signed, IntKind.bits] using h
  exact ⟨a.toNat, by omega, by omega⟩
/-- The cells of a head, read. -/
theorem cells_head {H : Type} {enc : TypeId × Value → H} {W : World} {base : Nat} {sp : Nat → Bool} {fuel : Nat} {cs : List Value} {d : DataW H × List MemPlace}
    (hn : cs.length = 135) (hf : DataW.trod enc Try.prog W base sp true fuel 29 cs = some d) : ∃ x : Hd, cs = x.cs := by
  obtain ⟨ys, n, hn', hy, hlen, hyl, hfl⟩ := DataW.trod_struct under_head hf
  have hfs := fields_head
  obtain ⟨fs, hfs2⟩ : ∃ fs, (Try.prog.fieldsOf 29).toList = fs := ⟨_, rfl⟩
  rw [hfs2] at hfs
  match fs, hfs with
  | [f0, f1, f2, f3, f4, f5, f6, f7], hfs =>
    simp only [List.map_cons, List.map_nil, List.cons.injEq, Prod.mk.injEq, and_true] at hfs
    obtain ⟨⟨n0, t0, o0⟩, ⟨n1, t1, o1⟩, ⟨n2, t2, o2⟩, ⟨n3, t3, o3⟩, ⟨n4, t4, o4⟩, ⟨n5, t5, o5⟩, ⟨n6, t6, o6⟩, ⟨n7, t7, o7⟩⟩ := hfs
    have g : ∀ j : Nat, (Try.prog.fieldsOf 29)[j]? = [f0, f1, f2, f3, f4, f5, f6, f7][j]? := fun j => by rw [← hfs2, Array.getElem?_toList]
    have h0 := hfl 0 f0 (g 0)
    have h1 := hfl 1 f1 (g 1)
    have h2 := hfl 2 f2 (g 2)
    have h3 := hfl 3 f3 (g 3)
    have h4 := hfl 4 f4 (g 4)
    have h5 := hfl 5 f5 (g 5)
    have h6 := hfl 6 f6 (g 6)
    have h7 := hfl 7 f7 (g 7)
    rw [t0, o0] at h0
    rw [t1, o1] at h1
    rw [t2, o2] at h2
    rw [t3, o3] at h3
    rw [t4, o4] at h4
    rw [t5, o5] at h5
    rw [t6, o6] at h6
    rw [t7, o7] at h7
    have hsz : (Try.prog.fieldsOf 29).size = 8 := by rw [← Array.length_toList, hfs2]; rfl
    have s0 : ys[0]? = some ys[0] := List.getElem?_eq_getElem (by omega)
    have s1 : ys[1]? = some ys[1] := List.getElem?_eq_getElem (by omega)
    have s2 : ys[2]? = some ys[2] := List.getElem?_eq_getElem (by omega)
    have s3 : ys[3]? = some ys[3] := List.getElem?_eq_getElem (by omega)
    have s4 : ys[4]? = some ys[4] := List.getElem?_eq_getElem (by omega)
    have s5 : ys[5]? = some ys[5] := List.getElem?_eq_getElem (by omega)
    have s6 : ys[6]? = some ys[6] := List.getElem?_eq_getElem (by omega)
    have s7 : ys[7]? = some ys[7] := List.getElem?_eq_getElem (by omega)
    rw [cellsI1, List.drop_zero, s0] at h0
    rw [cellsId, s1] at h1
    rw [cellsId, s2] at h2
    rw [cellsId, s3] at h3
    rw [cellsId, s4] at h4
    rw [cellsW4, s5] at h5
    rw [cellsU32, s6] at h6
    rw [cellsU1, s7] at h7
    obtain ⟨k, e0, _, w0⟩ := DataW.trod_int Try.underlying3 h0
    obtain ⟨a, e1⟩ := cells_id (by rw [List.length_take, List.length_drop]; omega) h1
    obtain ⟨b, e2⟩ := cells_id (by rw [List.length_take, List.length_drop]; omega) h2
    obtain ⟨c, e3⟩ := cells_id (by rw [List.length_take, List.length_drop]; omega) h3
    obtain ⟨d, e4⟩ := cells_id (by rw [List.length_take, List.length_drop]; omega) h4
    obtain ⟨x, e5⟩ := cells_wd (by rw [List.length_take, List.length_drop]; omega) h5
    obtain ⟨bi', e6, _, w6⟩ := DataW.trod_int Try.underlying27 h6
    obtain ⟨no', e7, _, w7⟩ := DataW.trod_int Try.underlying24 h7
    have hk := i64_bd w0
    obtain ⟨bi, rfl, hb⟩ := u32_nat' w6
    obtain ⟨no, rfl, hno⟩ := u64_nat' w7
    refine ⟨⟨k, a, b, c, d, x, bi, no, hk.1, hk.2, hb, hno⟩, ?_⟩
    have step : ∀ (o m : Nat), cs.drop o = (cs.drop o).take m ++ cs.drop (o + m) := fun o m => by rw [← List.drop_drop, List.take_append_drop]
    have s0 := step 0 1
    have s1 := step 1 32
    have s2 := step 33 32
    have s3 := step 65 32
    have s4 := step 97 32
    have s5 := step 129 4
    have s6 := step 133 1
    have s7 := step 134 1
    simp only [Nat.reduceAdd] at s0 s1 s2 s3 s4 s5 s6 s7
    rw [List.drop_of_length_le (show cs.length ≤ 135 by omega), List.append_nil] at s7
    rw [s7, e7] at s6
    rw [s6, e6] at s5
    rw [s5, e5] at s4
    rw [s4, e4] at s3
    rw [s3, e3] at s2
    rw [s2, e2] at s1
    rw [s1, e1, List.drop_zero, e0] at s0
    rw [s0]
    rfl
theorem open_head {H : Type} {enc : TypeId × Value → H} {W : World} {base : Nat} {sp : Nat → Bool} {v : Value} {d : DataW H} {p : List MemPlace}
    (hv : Value.okWide Try.prog W .any base 29 v) (h : DataW.Trod enc Try.prog W 0 sp true 29 v d p) : ∃ x : Hd, v = x.v := by
  obtain ⟨cs, rfl, hsz⟩ := okWide_struct under_head hv
  rw [cellsHd] at hsz
  obtain ⟨fuel, hf⟩ := h
  obtain ⟨x, hx⟩ := cells_head (cs := cs.toList) (by simpa using hsz) hf
  exact ⟨x, congrArg Value.agg (arr_ext hx)⟩
end Go.Proofs.Ytommbfgagalckaa
/- What a head's sum, level and work are; which are mined. No program in sight. -/
namespace Go.Proofs.Ytommbfgagalckaa
set_option linter.unusedVariables false
set_option linter.unusedSimpArgs false
open Go.RowKit
set_option maxRecDepth 100000
def Hd.zero : Hd := ⟨0, Idb.zero, Idb.zero, Idb.zero, Idb.zero, Wd.zero, 0, 0, by decide, by decide, by decide, by decide⟩
def sumI (l : List Nat) : Idb := ⟨sum l, sum_len l, sum_lt l⟩
/-- A head's sum. -/
def hid (h : Hd) : Idb := if hok h then sumI (5 :: hputL h) else Idb.zero
/-- A head's level. -/
noncomputable def hlev (h : Hd) : Int := if tgOk h.bi = true ∧ hok h = true then (if h.ht = 0 then 31 else lv (hid h) (tg h.bi)) else -1
theorem hlev_bd (h : Hd) : -1 ≤ hlev h ∧ hlev h ≤ 31 := by
  have := lv_bd (hid h) (tg h.bi)
  unfold hlev
  split
  · split <;> omega
  · omega
noncomputable def hwork (h : Hd) : Wd := if tgOk h.bi then wk (tg h.bi) else Wd.zero
/-- May a head be? -/
noncomputable def hmay (h : Hd) : Bool := decide (0 ≤ hlev h)
theorem hmay_ne (h : Hd) : hmay h = !decide (hlev h = -1) := by
  have := hlev_bd h
  unfold hmay
  rw [Bool.eq_iff_iff, Bool.not_eq_true', decide_eq_true_eq, decide_eq_false_iff_not]; omega
/-- By another number. -/
def Hd.at (h : Hd) (n : Nat) : Hd := ⟨h.ht, h.a, h.b, h.c, h.d, h.w, h.bi, n % 18446744073709551616, h.lo, h.hi, h.hb, Nat.mod_lt _ (by decide)⟩
def Hd.up (h : Hd) (i : Nat) : Hd := h.at (h.no + i)
theorem Hd.up_zero (h : Hd) : h.up 0 = h := Hd.ext' rfl rfl rfl rfl rfl rfl rfl (Nat.mod_eq_of_lt h.hn)
/-- How many are tried. -/
def tryN (tries : Int) : Nat := (min tries 200).toNat
/-- Which is the first that may be, of 'n' from the i-th on? -/
noncomputable def firstM (h : Hd) : Nat → Nat → Option Nat
  | _, 0 => none
  | i, n + 1 => if hmay (h.up i) then some i else firstM h (i + 1) n
theorem firstM_some {h : Hd} : ∀ {n i j : Nat}, firstM h i n = some j → i ≤ j ∧ j < i + n ∧ hmay (h.up j) = true ∧ ∀ k, i ≤ k → k < j → hmay (h.up k) = false
  | 0, i, j, e => by simp [firstM] at e
  | n + 1, i, j, e => by
    unfold firstM at e
    by_cases hm : hmay (h.up i) = true
    · rw [if_pos hm] at e
      obtain rfl := Option.some.inj e
      exact ⟨Nat.le_refl _, by omega, hm, fun k h1 h2 => by omega⟩
    · rw [if_neg hm] at e
      obtain ⟨h1, h2, h3, h4⟩ := firstM_some e
      refine ⟨by omega, by omega, h3, fun k h5 h6 => ?_⟩
      rcases Nat.eq_or_lt_of_le h5 with rfl | h7
      · simpa using hm
      · exact h4 k (by omega) h6
theorem firstM_none {h : Hd} : ∀ {n i : Nat}, firstM h i n = none → ∀ k, i ≤ k → k < i + n → hmay (h.up k) = false
  | 0, i, _, k, h1, h2 => by omega
  | n + 1, i, e, k, h1, h2 => by
    unfold firstM at e
    by_cases hm : hmay (h.up i) = true
    · rw [if_pos hm] at e; cases e
    · rw [if_neg hm] at e
      rcases Nat.eq_or_lt_of_le h1 with rfl | h7
      · simpa using hm
      · exact firstM_none e k (by omega) (by omega)
/-- What is mined. -/
noncomputable def hmine (h : Hd) (tries : Int) : Hd × Bool := match firstM h 0 (tryN tries) with
  | some i => (h.up i, true)
  | none => (h, false)
end Go.Proofs.Ytommbfgagalckaa
/- Bytes shown by a slice, with room. -/
namespace Go.Proofs.Ytommbfgagalckaa
set_option linter.unusedVariables false
set_option linter.unusedSimpArgs false
open Go.ChangeShapes Go.WideShapes Go.ChangeAt Go.RowKit
set_option maxRecDepth 100000
def ShowsC (w : World) (v : Value) (l : List Nat) : Prop := ∃ p c, v = .slice p l.length c ∧ l.length ≤ c ∧ Shows w (.slice p l.length c) (bys l)
theorem ShowsC.grew {w w' : World} {v : Value} {l : List Nat} (h : ShowsC w v l) (g : Grew w w') : ShowsC w' v l := by
  obtain ⟨p, c, h1, h2, h3⟩ := h
  exact ⟨p, c, h1, h2, h3.grew g⟩
theorem ShowsC.nil (w : World) : ShowsC w (.slice none 0 0) [] := ⟨none, 0, rfl, Nat.le_refl _, .inr ⟨_, _, rfl, rfl⟩⟩
theorem ShowsC.own {w : World} {base : Nat} {e : TypeId} {v : Value} {l : List Nat} (h : OwnR w base e v (bys l)) : ShowsC w v l := by
  by_cases hl : 0 < l.length
  · obtain ⟨g, cap, rfl, _, _, h4, _, _⟩ := own_form h (by rw [bys_len]; exact hl)
    have hs := h.shows
    rw [bys_len] at h4 hs ⊢
    exact ⟨_, _, rfl, h4, hs⟩
  · have hs := h.shows
    obtain rfl : l = [] := List.length_eq_zero_iff.1 (by omega)
    obtain ⟨p, c, rfl⟩ := shows_form hs
    exact ⟨p, c, rfl, Nat.zero_le _, hs⟩
theorem open_bytesc {H : Type} {enc : TypeId × Value → H} {W : World} {v : Value} {d : DataW H} {p : List MemPlace} (h : DataW.Trod enc Try.prog W 0 (fun _ => true) true 30 v d p) (hv : v.cells = #[v]) :
    ∃ (q : Option Addr) (c : Nat) (l : List Nat), v = .slice q l.length c ∧ (∀ x ∈ l, x < 256) ∧ l.length ≤ maxLen ∧ Shows W (.slice q l.length c) (bys l) ∧ l.length ≤ c := by
  have h0 := h
  obtain ⟨q, c, l, e, hb, hm, hs⟩ := open_bytes h hv
  refine ⟨q, c, l, e, hb, hm, hs, ?_⟩
  obtain ⟨fuel, hf⟩ := h0
  rw [hv] at hf
  rcases open_ints Try.underlying30 Try.underlying5 cellsU8 hf with ⟨hcs, _⟩ | ⟨a, len, cap, zs, hcs, _, hl, _⟩
  · have e2 : v = .slice none 0 0 := by simpa using hcs
    rw [e] at e2
    simp only [Value.slice.injEq] at e2
    omega
  · have e2 : v = .slice (some a) len cap := by simpa using hcs
    rw [e] at e2
    simp only [Value.slice.injEq] at e2
    omega
end Go.Proofs.Ytommbfgagalckaa
/- Heads: built, and handed back. -/
namespace Go.Proofs.Ytommbfgagalckaa
open Go.RowKit
set_option maxRecDepth 100000
set_option linter.unusedVariables false
set_option linter.unusedSimpArgs false
def hdBuild (parts : Array (Nat × Value)) : Sem Next := do let v ← Instr.build 29 parts; pure (.value v)
section
variable (ρ : Operand → Value) (d : Option Tmp) (x0 x1 x2 x3 x4 x5 x6 x7 : Operand) (t : TypeId) (p : String) (a : Array Edge) (g : Option (Nat × Bool))
@[go_sem ↓] theorem ex_hdBuild0 : execOp ρ ⟨d, .build 29 #[], t, p, a, g⟩ = hdBuild #[] := by simp [execOp, hdBuild]
@[go_sem ↓] theorem ex_hdBuild2 : execOp ρ ⟨d, .build 29 #[(6, x6), (7, x7)], t, p, a, g⟩ = hdBuild #[(6, ρ x6), (7, ρ x7)] := by simp [execOp, hdBuild]
@[go_sem ↓] theorem ex_hdBuild8 : execOp ρ ⟨d, .build 29 #[(0, x0), (1, x1), (2, x2), (3, x3), (4, x4), (5, x5), (6, x6), (7, x7)], t, p, a, g⟩ = hdBuild #[(0, ρ x0), (1, ρ x1), (2, ρ x2), (3, ρ x3), (4, ρ x4), (5, ρ x5), (6, ρ x6), (7, ρ x7)] := by simp [execOp, hdBuild]
end
theorem fill_oneH (pl : Nat → Option (Nat × Nat)) (i off n : Nat) (v : Value) (r : List (Nat × Value)) (C : Array Value) (hp : pl i = some (off, n)) (hv : v.cells.size = n) (hC : off + n ≤ C.size) : Instr.fill pl C ((i, v) :: r) = Instr.fill pl (putAt C off v.cells.toList) r := by
  have ea : v.cells.zipIdx = (v.cells.toList.zipIdx).toArray := by cases v.cells; simp
  have h1 := foldl_set v.cells.toList 0 off C (by simp; omega)
  have h2 : (v.cells.zipIdx.foldl (fun cs (x : Value × Nat) => cs.setIfInBounds (off + x.2) x.1) C) = putAt C off v.cells.toList := by
    refine arr_ext ?_
    rw [ea, List.foldl_toArray, putAt_list _ _ _ (by simp; omega)]
    refine h1.trans ?_
    simp
  rw [Instr.fill, hp]
  simp only [hv]
  rw [if_neg (by simp; omega)]
  exact congrArg (fun Z => Instr.fill pl Z r) h2
def hdPl : Array (Nat × Nat) := #[(0, 1), (1, 32), (33, 32), (65, 32), (97, 32), (129, 4), (133, 1), (134, 1)]
theorem places_head (w : World) : ((Try.prog.fieldsOf 29).mapM fun (f : Field) => (do pure (f.offset, ← sizeOf f.type) : Sem (Nat × Nat))).run Try.prog w = .ok #[(0, 1), (1, 32), (33, 32), (65, 32), (97, 32), (129, 4), (133, 1), (134, 1)] w := by kernel_rfl
theorem run_hdBuild (parts : Array (Nat × Value)) (C : Array Value) (hf : Instr.fill (hdPl[·]?) (hda 0 id0 id0 id0 id0 0 0 0) parts.toList = some C) (w : World) : (hdBuild parts).run Try.prog w = .ok (.value (.agg C)) w := by
  have hz : (zeroValue 29).run Try.prog w = .ok (.agg (hda 0 id0 id0 id0 id0 0 0 0)) w := by
    have := zero_head
    cases hq : Try.prog.info? 29 with
    | none => rw [hq] at this; cases this
    | some i => simp [hq] at this; simp [zeroValue, typeInfo, hq, this]
  unfold hdPl at hf
  unfold hdBuild Instr.build
  simp only [Sem.run_bind, hz, run_underlying under_head w, Result.andThen_ok, places_head, show (Value.agg (hda 0 id0 id0 id0 id0 0 0 0)).cells = hda 0 id0 id0 id0 id0 0 0 0 from rfl, hf, Sem.run_pure]
@[go_sem] theorem run_hdBuild0 (w : World) : (hdBuild #[]).run Try.prog w = .ok (.value (.agg (hda 0 id0 id0 id0 id0 0 0 0))) w := run_hdBuild _ _ rfl w
@[go_sem] theorem run_hdBuild2 (bi no : Nat) (w : World) : (hdBuild #[(6, .int .u32 (bi : Int)), (7, .int .u64 (no : Int))]).run Try.prog w = .ok (.value (.agg (hda 0 id0 id0 id0 id0 0 bi no))) w := by
  refine run_hdBuild _ _ ?_ w
  have sz : ∀ w x y, (hda 0 id0 id0 id0 id0 w x y).size = 135 := fun w x y => hda_size _ _ _ _ _ _ _ _ id0_len id0_len id0_len id0_len
  show Instr.fill (hdPl[·]?) (hda 0 id0 id0 id0 id0 0 0 0) [(6, .int .u32 (bi : Int)), (7, .int .u64 (no : Int))] = _
  rw [fill_oneH _ 6 133 1 _ _ _ rfl rfl (by rw [sz]; omega), show (Value.int .u32 (bi : Int)).cells.toList = [.int .u32 (bi : Int)] from rfl, hw_bi _ _ _ _ _ _ _ _ id0_len id0_len id0_len id0_len]
  rw [fill_oneH _ 7 134 1 _ _ _ rfl rfl (by rw [sz]; omega), show (Value.int .u64 (no : Int)).cells.toList = [.int .u64 (no : Int)] from rfl, hw_no _ _ _ _ _ _ _ _ id0_len id0_len id0_len id0_len]
  rfl
@[go_sem] theorem run_hdBuild8 (ht : Int) (a b c d : List Nat) (x bi no : Nat) (ha : a.length = 32) (hb : b.length = 32) (hc : c.length = 32) (hd : d.length = 32) (w : World) :
    (hdBuild #[(0, .int .i64 ht), (1, .agg (iv a)), (2, .agg (iv b)), (3, .agg (iv c)), (4, .agg (iv d)), (5, .agg (wv x)), (6, .int .u32 (bi : Int)), (7, .int .u64 (no : Int))]).run Try.prog w = .ok (.value (.agg (hda ht a b c d x bi no))) w := by
  refine run_hdBuild _ _ ?_ w
  have cc : ∀ C : Array Value, (Value.agg C).cells = C := fun C => rfl
  have z := id0_len
  show Instr.fill (hdPl[·]?) (hda 0 id0 id0 id0 id0 0 0 0) [(0, .int .i64 ht), (1, .agg (iv a)), (2, .agg (iv b)), (3, .agg (iv c)), (4, .agg (iv d)), (5, .agg (wv x)), (6, .int .u32 (bi : Int)), (7, .int .u64 (no : Int))] = _
  rw [fill_oneH _ 0 0 1 _ _ _ rfl rfl (by rw [hda_size _ _ _ _ _ _ _ _ z z z z]; omega), show (Value.int .i64 ht).cells.toList = [.int .i64 ht] from rfl, hw_ht]
  rw [fill_oneH _ 1 1 32 _ _ _ rfl (by rw [cc, iv_size, ha]) (by rw [hda_size _ _ _ _ _ _ _ _ z z z z]; omega), cc, hw_a _ _ _ _ _ _ _ _ z _ ha]
  rw [fill_oneH _ 2 33 32 _ _ _ rfl (by rw [cc, iv_size, hb]) (by rw [hda_size _ _ _ _ _ _ _ _ ha z z z]; omega), cc, hw_b _ _ _ _ _ _ _ _ ha z _ hb]
  rw [fill_oneH _ 3 65 32 _ _ _ rfl (by rw [cc, iv_size, hc]) (by rw [hda_size _ _ _ _ _ _ _ _ ha hb z z]; omega), cc, hw_c _ _ _ _ _ _ _ _ ha hb z _ hc]
  rw [fill_oneH _ 4 97 32 _ _ _ rfl (by rw [cc, iv_size, hd]) (by rw [hda_size _ _ _ _ _ _ _ _ ha hb hc z]; omega), cc, hw_d _ _ _ _ _ _ _ _ ha hb hc z _ hd]
  rw [fill_oneH _ 5 129 4 _ _ _ rfl rfl (by rw [hda_size _ _ _ _ _ _ _ _ ha hb hc hd]; omega), cc, hw_w _ _ _ _ _ _ _ _ ha hb hc hd]
  rw [fill_oneH _ 6 133 1 _ _ _ rfl rfl (by rw [hda_size _ _ _ _ _ _ _ _ ha hb hc hd]; omega), show (Value.int .u32 (bi : Int)).cells.toList = [.int .u32 (bi : Int)] from rfl, hw_bi _ _ _ _ _ _ _ _ ha hb hc hd]
  rw [fill_oneH _ 7 134 1 _ _ _ rfl rfl (by rw [hda_size _ _ _ _ _ _ _ _ ha hb hc hd]; omega), show (Value.int .u64 (no : Int)).cells.toList = [.int .u64 (no : Int)] from rfl, hw_no _ _ _ _ _ _ _ _ ha hb hc hd]
  rfl
theorem loadVar_head {g : Nat} {w : World} {C : Array Value} (hw : w.rowAt g = C) (hs : C.size = 135) : (loadVar 29 ⟨g, 0, none⟩).run Try.prog w = .ok (.agg C) w := by
  obtain ⟨t, fr, hg⟩ := row_of_size w (n := 134) (by rw [hw, hs])
  rw [hw] at hg
  exact run_loadVar_row w g t 29 C fr _ hg under_head rfl (by rw [hs]; exact size_head)
theorem head_slot_result {fn : Func} {p q : Tmp} {g : Nat} {w : World} {C : Array Value} {v : Value} (hr : fn.results = #[.cell p 29, .tmp q]) (tmps : Array Value) (hp : tmps.getD p undef = .pointer (some ⟨g, 0, none⟩)) (hq : tmps.getD q undef = v) (hw : w.rowAt g = C) (hs : C.size = 135) :
    (results fn tmps).run Try.prog w = .ok (.tuple #[.agg C, v]) w := by
  have hp' : tmps[p]?.getD undef = .pointer (some ⟨g, 0, none⟩) := by simpa using hp
  have hq' : tmps[q]?.getD undef = v := by simpa using hq
  simp [results, hr, hp', hq', asAddr, loadVar_head hw hs]
theorem head_cell_result {fn : Func} {p q : Tmp} {g g2 : Nat} {w : World} {C : Array Value} {x : Bool} (hr : fn.results = #[.cell p 29, .cell q 4]) (tmps : Array Value) (hp : tmps.getD p undef = .pointer (some ⟨g, 0, none⟩)) (hq : tmps.getD q undef = .pointer (some ⟨g2, 0, none⟩)) (hw : w.rowAt g = C) (hs : C.size = 135) (hv : w.cell? ⟨g2, 0, none⟩ = some (.bool x)) :
    (results fn tmps).run Try.prog w = .ok (.tuple #[.agg C, .bool x]) w := by
  have hp' : tmps[p]?.getD undef = .pointer (some ⟨g, 0, none⟩) := by simpa using hp
  have hq' : tmps[q]?.getD undef = .pointer (some ⟨g2, 0, none⟩) := by simpa using hq
  have hl : (loadVar 4 ⟨g2, 0, none⟩).run Try.prog w = .ok (.bool x) w := by
    simp [go_sem, hv]
  simp [results, hr, hp', hq', asAddr, loadVar_head hw hs, hl]
end Go.Proofs.Ytommbfgagalckaa
/- head.Put. -/
namespace Go.Proofs.Ytommbfgagalckaa
open Go.RowKit
set_option maxRecDepth 100000
set_option linter.unusedVariables false
set_option linter.unusedSimpArgs false
/-- What is put, or nothing. -/
def hpL (h : Hd) : List Nat := if hok h then hputL h else []
theorem hpL_lt (h : Hd) : ∀ c ∈ hpL h, c < 256 := by
  unfold hpL
  split
  · exact hputL_lt h
  · intro c hc; cases hc
theorem hpL_len (h : Hd) : (hpL h).length ≤ 176 := by
  unfold hpL
  split
  · rw [hputL_len]; omega
  · simp
theorem hpL_ok {h : Hd} (ho : hok h = true) : hpL h = hputL h := by unfold hpL; rw [if_pos ho]
theorem hpL_no {h : Hd} (ho : hok h = false) : hpL h = [] := by unfold hpL; rw [if_neg (by rw [ho]; decide)]
theorem shows_rowH {w : World} {g o n : Nat} {l : List Nat} {C : Array Value} (hg : g < w.heap.size) (h : w.rowAt g = C) (hl : ∀ j u, (bys l)[j]? = some u → C[o + j]? = some u) (hn : l.length = n) : Shows w (.slice (some ⟨g, o, none⟩) n n) (bys l) :=
  .inl ⟨g, o, n, by rw [bys_len, hn], hg, fun j u hj => by rw [cell_rowAt, h]; exact hl j u hj⟩
theorem part_get {C : Array Value} {o n : Nat} {cs : List Value} (h : (C.toList.drop o).take n = cs) : ∀ j u, cs[j]? = some u → C[o + j]? = some u := by
  intro j u hj
  rw [← h, List.getElem?_take] at hj
  by_cases hlt : j < n
  · rw [if_pos hlt, List.getElem?_drop] at hj; simpa using hj
  · rw [if_neg hlt] at hj; cases hj
/-- What is read of a head in a block, and of an id. -/
theorem Hd.slices {Y : World} {h : Hd} {g g2 : Nat} {x : Idb} (hlt : g < Y.heap.size) (hlt2 : g2 < Y.heap.size) (r1 : Y.rowAt g = hda h.ht h.a.l h.b.l h.c.l h.d.l h.w.n h.bi h.no) (r2 : Y.rowAt g2 = iv x.l) :
    Shows Y (.slice (some ⟨g, 1, none⟩) 32 32) (bys h.a.l) ∧ Shows Y (.slice (some ⟨g, 33, none⟩) 32 32) (bys h.b.l) ∧ Shows Y (.slice (some ⟨g, 65, none⟩) 32 32) (bys h.c.l) ∧ Shows Y (.slice (some ⟨g, 97, none⟩) 32 32) (bys h.d.l) ∧ Shows Y (.slice (some ⟨g2, 0, none⟩) 32 32) (bys x.l) ∧
    Y.cell? ⟨g, 0, none⟩ = some (.int .i64 h.ht) ∧ Y.cell? ⟨g, 133, none⟩ = some (.int .u32 h.bi) ∧ Y.cell? ⟨g, 134, none⟩ = some (.int .u64 h.no) := by
  have ha := h.a.len
  have hb := h.b.len
  have hc := h.c.len
  have hd := h.d.len
  refine ⟨shows_rowH hlt r1 (part_get (hdl_a _ _ _ _ _ _ _ _ ha hb hc hd)) ha, shows_rowH hlt r1 (part_get (hdl_b _ _ _ _ _ _ _ _ ha hb hc hd)) hb, shows_rowH hlt r1 (part_get (hdl_c _ _ _ _ _ _ _ _ ha hb hc hd)) hc, shows_rowH hlt r1 (part_get (hdl_d _ _ _ _ _ _ _ _ ha hb hc hd)) hd,
    shows_rowH hlt2 r2 (fun j u hj => by rw [Nat.zero_add, ← bys_iv, List.getElem?_toArray]; exact hj) x.len, ?_, ?_, ?_⟩
  · rw [cell_rowAt, r1]; exact hda_0 _ _ _ _ _ _ _ _ ha hb hc hd
  · rw [cell_rowAt, r1]; exact hda_133 _ _ _ _ _ _ _ _ ha hb hc hd
  · rw [cell_rowAt, r1]; exact hda_134 _ _ _ _ _ _ _ _ ha hb hc hd
theorem hput_cat (h : Hd) (m : Nat) (hm : h.ht.toNat = m) (v0 v1 v2 v3 v4 v5 v6 v7 : Value) (X : World) (δ ε : Junk) (h0 : Shows X v0 (bys (putL m 4))) (h1 : Shows X v1 (bys h.a.l)) (h2 : Shows X v2 (bys h.b.l)) (h3 : Shows X v3 (bys h.c.l)) (h4 : Shows X v4 (bys h.d.l)) (h5 : Shows X v5 (bys h.w.id.l)) (h6 : Shows X v6 (bys (putL h.bi 4))) (h7 : Shows X v7 (bys (putL h.no 8))) :
    Calls Try.prog 30 #[.slice (some ⟨X.heap.size + δ.n, 0, none⟩) 8 8] (((X.grow δ).alloc (.cells #[v0, v1, v2, v3, v4, v5, v6, v7] 30)).grow ε)
      fun e w' => ∃ v, e = .returned v ∧ OwnR w' X.heap.size 5 v (bys (hputL h)) ∧ Grew (((X.grow δ).alloc (.cells #[v0, v1, v2, v3, v4, v5, v6, v7] 30)).grow ε) w' := by
  have sz := size_grow X δ
  have o := shows_alloc (X.grow δ) [v0, v1, v2, v3, v4, v5, v6, v7] 30 8
  rw [sz] at o
  have g : Grew X (((X.grow δ).alloc (.cells #[v0, v1, v2, v3, v4, v5, v6, v7] 30)).grow ε) := (by repeat (first | with_reducible exact Grew.refl _ | with_reducible apply Grew.alloc | with_reducible apply Grew.grow | with_reducible apply Grew.drew | with_reducible apply Grew.drewN))
  have g' : Grew ((X.grow δ).alloc (.cells #[v0, v1, v2, v3, v4, v5, v6, v7] 30)) (((X.grow δ).alloc (.cells #[v0, v1, v2, v3, v4, v5, v6, v7] 30)).grow ε) := ⟨ε, rfl⟩
  have hf : ([putL m 4, h.a.l, h.b.l, h.c.l, h.d.l, h.w.id.l, putL h.bi 4, putL h.no 8] : List (List Nat)).flatten = hputL h := by simp [hputL, hm]
  refine (concat_w [putL m 4, h.a.l, h.b.l, h.c.l, h.d.l, h.w.id.l, putL h.bi 4, putL h.no 8] [v0, v1, v2, v3, v4, v5, v6, v7] _ _ rfl (Shows.grew o g') ?_ (by rw [hf, hputL_len]; omega) (by simp)).mono ?_
  · intro k hk
    have hk : k < 8 := hk
    match k, hk with
    | 0, _ => exact h0.grew g
    | 1, _ => exact h1.grew g
    | 2, _ => exact h2.grew g
    | 3, _ => exact h3.grew g
    | 4, _ => exact h4.grew g
    | 5, _ => exact h5.grew g
    | 6, _ => exact h6.grew g
    | 7, _ => exact h7.grew g
  · rintro e w' ⟨v, rfl, ho, hg⟩
    rw [hf] at ho
    exact ⟨v, rfl, ho.base g.size, hg⟩
theorem toNat_u64 {x : Int} (h0 : 0 ≤ x) (h1 : x ≤ 1048576) : IntKind.u64.wrap x = ((x.toNat : Nat) : Int) ∧ x.toNat < 18446744073709551616 := by
  refine ⟨?_, by omega⟩
  rw [IntKind.wrap_u64]; omega
set_option maxHeartbeats 6400000 in
theorem hput_w (h : Hd) (w : World) :
    Calls Try.prog 10 #[.agg (hda h.ht h.a.l h.b.l h.c.l h.d.l h.w.n h.bi h.no)] w fun e w' => ∃ v, e = .returned (.tuple #[v, .bool (hok h)]) ∧ ShowsC w' v (hpL h) ∧ Grew w w' := by
  have ha := h.a.len
  have hb := h.b.len
  have hc := h.c.len
  have hd := h.d.len
  by_cases h1 : h.ht < 0
  · have ho : hok h = false := decide_eq_false (by omega)
    rw [ho, hpL_no ho]
    go_enter Try.func10, Try.ntmps10
    go_wp2
    go_ret2
    exact ⟨_, rfl, ShowsC.nil _, (by repeat (first | with_reducible exact Grew.refl _ | with_reducible apply Grew.alloc | with_reducible apply Grew.grow | with_reducible apply Grew.drew | with_reducible apply Grew.drewN))⟩
  by_cases h2 : 1048576 < h.ht
  · have ho : hok h = false := decide_eq_false (by omega)
    rw [ho, hpL_no ho]
    go_enter Try.func10, Try.ntmps10
    go_wp2
    go_ret2
    exact ⟨_, rfl, ShowsC.nil _, (by repeat (first | with_reducible exact Grew.refl _ | with_reducible apply Grew.alloc | with_reducible apply Grew.grow | with_reducible apply Grew.drew | with_reducible apply Grew.drewN))⟩
  have ho : hok h = true := decide_eq_true (by omega)
  rw [ho, hpL_ok ho]
  obtain ⟨hn, NL⟩ := toNat_u64 (x := h.ht) (by omega) (by omega)
  have ht2 : ¬ (1048576 : Int) < h.ht := h2
  clear ho
  go_enter Try.func10, Try.ntmps10
  go_wp2_with (go_at_call 29; refine (bytes_w h.w _).mono ?_; rintro e w' ⟨rfl, δ, rfl⟩)
  refine wp_region_flow (by kernel_rfl) ?_
  intro δf
  refine flow_abs ?_
  intro Y hY
  have r1 : Y.rowAt w.heap.size = hda h.ht h.a.l h.b.l h.c.l h.d.l h.w.n h.bi h.no := by rw [hY]; simp [go_sem]
  have r2 : Y.rowAt (w.heap.size + 1 + δ.n) = iv h.w.id.l := by rw [hY]; simp [go_sem]
  have g0 : Grew w Y := by rw [hY]; exact (by repeat (first | with_reducible exact Grew.refl _ | with_reducible apply Grew.alloc | with_reducible apply Grew.grow | with_reducible apply Grew.drew | with_reducible apply Grew.drewN))
  have z0 : Y.heap.size = w.heap.size + 1 + δ.n + 1 + δf.n := by rw [hY]; simp
  obtain ⟨g2, hg2⟩ : ∃ g2, w.heap.size + 1 + δ.n = g2 := ⟨_, rfl⟩
  rw [hg2] at r2 ⊢
  obtain ⟨s1, s2, s3, s4, s5, c0, c1, c2⟩ := Hd.slices (show w.heap.size < Y.heap.size by omega) (show g2 < Y.heap.size by omega) r1 r2
  have hlt : w.heap.size < Y.heap.size := by omega
  have hlt2 : g2 < Y.heap.size := by omega
  have S := Lib.hid (And.intro s1 (And.intro s2 (And.intro s3 (And.intro s4 s5))))
  have G0 := Lib.hid g0
  have hbi := h.hb
  have hno := h.hn
  have hbn : h.bi < 18446744073709551616 := by omega
  obtain ⟨m, hm⟩ : ∃ m, h.ht.toNat = m := ⟨_, rfl⟩
  rw [hm] at hn NL
  have HM := Lib.hid hm
  clear s1 s2 s3 s4 s5 g0 r1 r2 hg2 hm z0 hY h1 h2 ht2 
  apply wpFlow_quiets [0,1,2,4,5,6,7,8,9,10,11,12,13,14,15,17,18] (by decide +kernel) (by decide +kernel) (by kernel_rfl) (by intro _ _ _ d _ h; cases d <;> exact h) _
  · intro A hA δ'
    simp only [pickOps_cons, pickOps_nil, pick1_zero, pick1_succ]
    repeat (go_big_quiet_step ((fail)))
    exact wpQuiet_nil hA.out.symm
  refine wpFlow_one 3 (by decide +kernel) (by kernel_rfl) (by kernel_rfl) ?_
  refine wpFlowS_intro ?_
  simp only [pickOps_cons, pickOps_nil, pick1_zero, pick1_succ]
  intro δf
  go_wp2_with (go_at_call 31; refine (put_w m 4 NL (by omega) _).mono ?_; rintro e W1 ⟨cap, rfl, ho, hg⟩)
  refine ⟨(by first | assumption | (simp only [grow_grow, Array.append_assoc]; assumption) | exact Grew.refl _ | (simp only [grow_grow, Array.append_assoc]; exact (by repeat (first | with_reducible exact Grew.refl _ | with_reducible apply Grew.alloc | with_reducible apply Grew.grow | with_reducible apply Grew.drew | with_reducible apply Grew.drewN))) | exact (by repeat (first | with_reducible exact Grew.refl _ | with_reducible apply Grew.alloc | with_reducible apply Grew.grow | with_reducible apply Grew.drew | with_reducible apply Grew.drewN))), ?_⟩
  have ga := Lib.hid ((show Grew Y _ from (by repeat (first | with_reducible exact Grew.refl _ | with_reducible apply Grew.alloc | with_reducible apply Grew.grow | with_reducible apply Grew.drew | with_reducible apply Grew.drewN))).trans hg)
  have s0 := ho.shows
  have hsz := size_grow Y δf
  rw [hsz] at s0
  obtain ⟨b3, hb3⟩ : ∃ b3, Y.heap.size + δf.n = b3 := ⟨_, rfl⟩
  rw [hb3] at s0 ⊢
  have S0 := Lib.hid s0
  clear ho hg s0 hsz hb3 hlt hlt2 c0 c1 c2 hn
  refine wpFlow_one 16 (by decide +kernel) (by kernel_rfl) (by kernel_rfl) ?_
  refine wpFlowS_intro ?_
  simp only [pickOps_cons, pickOps_nil, pick1_zero, pick1_succ]
  intro δf
  go_wp2_with (go_at_call 31; refine (put_w h.bi 4 hbn (by omega) _).mono ?_; rintro e W2 ⟨cap2, rfl, ho, hg⟩)
  refine ⟨(by first | assumption | (simp only [grow_grow, Array.append_assoc]; assumption) | exact Grew.refl _ | (simp only [grow_grow, Array.append_assoc]; exact (by repeat (first | with_reducible exact Grew.refl _ | with_reducible apply Grew.alloc | with_reducible apply Grew.grow | with_reducible apply Grew.drew | with_reducible apply Grew.drewN))) | exact (by repeat (first | with_reducible exact Grew.refl _ | with_reducible apply Grew.alloc | with_reducible apply Grew.grow | with_reducible apply Grew.drew | with_reducible apply Grew.drewN))), ?_⟩
  have gb := Lib.hid ((show Grew W1 _ from (by repeat (first | with_reducible exact Grew.refl _ | with_reducible apply Grew.alloc | with_reducible apply Grew.grow | with_reducible apply Grew.drew | with_reducible apply Grew.drewN))).trans hg)
  have s6 := ho.shows
  have hsz := size_grow W1 δf
  rw [hsz] at s6
  obtain ⟨b4, hb4⟩ : ∃ b4, W1.heap.size + δf.n = b4 := ⟨_, rfl⟩
  rw [hb4] at s6 ⊢
  have S6 := Lib.hid s6
  clear ho hg s6 hsz hb4
  refine wpFlow_one 19 (by decide +kernel) (by kernel_rfl) (by kernel_rfl) ?_
  refine wpFlowS_intro ?_
  simp only [pickOps_cons, pickOps_nil, pick1_zero, pick1_succ]
  intro δf
  go_wp2_with (go_at_call 31; refine (put_w h.no 8 hno (by omega) _).mono ?_; rintro e W3 ⟨cap3, rfl, ho, hg⟩)
  refine ⟨(by first | assumption | (simp only [grow_grow, Array.append_assoc]; assumption) | exact Grew.refl _ | (simp only [grow_grow, Array.append_assoc]; exact (by repeat (first | with_reducible exact Grew.refl _ | with_reducible apply Grew.alloc | with_reducible apply Grew.grow | with_reducible apply Grew.drew | with_reducible apply Grew.drewN))) | exact (by repeat (first | with_reducible exact Grew.refl _ | with_reducible apply Grew.alloc | with_reducible apply Grew.grow | with_reducible apply Grew.drew | with_reducible apply Grew.drewN))), ?_⟩
  have gc := Lib.hid ((show Grew W2 _ from (by repeat (first | with_reducible exact Grew.refl _ | with_reducible apply Grew.alloc | with_reducible apply Grew.grow | with_reducible apply Grew.drew | with_reducible apply Grew.drewN))).trans hg)
  have s7 := ho.shows
  have hsz := size_grow W2 δf
  rw [hsz] at s7
  obtain ⟨b5, hb5⟩ : ∃ b5, W2.heap.size + δf.n = b5 := ⟨_, rfl⟩
  rw [hb5] at s7 ⊢
  have S7 := Lib.hid s7
  have GY := Lib.hid (ga.out.trans (gb.out.trans gc.out))
  clear ho hg s7 hsz hb5
  refine wpFlow_one 20 (by decide +kernel) (by kernel_rfl) (by kernel_rfl) ?_
  refine wpFlowS_intro ?_
  simp only [pickOps_cons, pickOps_nil, pick1_zero, pick1_succ]
  intro δf
  go_wp2_with (fail)
  refine ⟨(by first | assumption | (simp only [grow_grow, Array.append_assoc]; assumption) | exact Grew.refl _ | (simp only [grow_grow, Array.append_assoc]; exact (by repeat (first | with_reducible exact Grew.refl _ | with_reducible apply Grew.alloc | with_reducible apply Grew.grow | with_reducible apply Grew.drew | with_reducible apply Grew.drewN))) | exact (by repeat (first | with_reducible exact Grew.refl _ | with_reducible apply Grew.alloc | with_reducible apply Grew.grow | with_reducible apply Grew.drew | with_reducible apply Grew.drewN))), ?_⟩
  refine wpFlow_one 21 (by decide +kernel) (by kernel_rfl) (by kernel_rfl) ?_
  refine wpFlowS_intro ?_
  simp only [pickOps_cons, pickOps_nil, pick1_zero, pick1_succ]
  intro δf
  go_wp2_with (go_at_call 30; refine (hput_cat h m HM.out _ _ _ _ _ _ _ _ W3 _ _ (S0.out.grew (gb.out.trans gc.out)) (S.out.1.grew GY.out) (S.out.2.1.grew GY.out) (S.out.2.2.1.grew GY.out) (S.out.2.2.2.1.grew GY.out) (S.out.2.2.2.2.grew GY.out) (S6.out.grew gc.out) S7.out).mono ?_; rintro e W4 ⟨v, rfl, ho, hg⟩)
  refine ⟨(by first | assumption | (simp only [grow_grow, Array.append_assoc]; assumption) | exact Grew.refl _ | (simp only [grow_grow, Array.append_assoc]; exact (by repeat (first | with_reducible exact Grew.refl _ | with_reducible apply Grew.alloc | with_reducible apply Grew.grow | with_reducible apply Grew.drew | with_reducible apply Grew.drewN))) | exact (by repeat (first | with_reducible exact Grew.refl _ | with_reducible apply Grew.alloc | with_reducible apply Grew.grow | with_reducible apply Grew.drew | with_reducible apply Grew.drewN))), ?_⟩
  have gd := Lib.hid ((show Grew W3 _ from (by repeat (first | with_reducible exact Grew.refl _ | with_reducible apply Grew.alloc | with_reducible apply Grew.grow | with_reducible apply Grew.drew | with_reducible apply Grew.drewN))).trans hg)
  have HO := Lib.hid (ShowsC.own ho)
  clear ho hg
  apply wpFlow_quiets [22,23] (by decide +kernel) (by decide +kernel) (by kernel_rfl) (by intro _ _ _ d _ h; cases d <;> exact h) _
  · intro A hA δ'
    simp only [pickOps_cons, pickOps_nil, pick1_zero, pick1_succ]
    repeat (go_big_quiet_step ((fail)))
    exact wpQuiet_nil hA.out.symm
  refine wpFlow_end (by decide +kernel) (by kernel_rfl) ?_
  intro δf
  go_wp2
  go_ret2
  exact ⟨_, rfl, HO.out.grew (by repeat (first | with_reducible exact Grew.refl _ | with_reducible apply Grew.alloc | with_reducible apply Grew.grow | with_reducible apply Grew.drew | with_reducible apply Grew.drewN)), (G0.out.trans (GY.out.trans gd.out)).trans (by repeat (first | with_reducible exact Grew.refl _ | with_reducible apply Grew.alloc | with_reducible apply Grew.grow | with_reducible apply Grew.drew | with_reducible apply Grew.drewN))⟩
end Go.Proofs.Ytommbfgagalckaa
/- The document's Put of a head. -/
namespace Go.Proofs.Ytommbfgagalckaa
open Go.RowKit
set_option maxRecDepth 100000
set_option linter.unusedVariables false
set_option linter.unusedSimpArgs false
set_option maxHeartbeats 6400000 in
theorem rhput_w (h : Hd) (w : World) :
    Calls Try.prog 21 #[.agg (hda h.ht h.a.l h.b.l h.c.l h.d.l h.w.n h.bi h.no)] w fun e w' => ∃ v, e = .returned (.tuple #[v, .bool (hok h)]) ∧ ShowsC w' v (hpL h) ∧ Grew w w' := by
  obtain ⟨ib, hi, hz, hsz, hby⟩ := info_b
  have ha := h.a.len
  have hb := h.b.len
  have hc := h.c.len
  have hd := h.d.len
  have hw := h.w.id.len
  by_cases h1 : h.ht < 0
  · have ho : hok h = false := decide_eq_false (by omega)
    rw [ho, hpL_no ho]
    go_enter Try.func21, Try.ntmps21
    go_wp2
    go_ret2
    exact ⟨_, rfl, ShowsC.nil _, (by repeat (first | with_reducible exact Grew.refl _ | with_reducible apply Grew.alloc | with_reducible apply Grew.grow | with_reducible apply Grew.drew | with_reducible apply Grew.drewN))⟩
  by_cases h2 : 1048576 < h.ht
  · have ho : hok h = false := decide_eq_false (by omega)
    rw [ho, hpL_no ho]
    go_enter Try.func21, Try.ntmps21
    go_wp2
    go_ret2
    exact ⟨_, rfl, ShowsC.nil _, (by repeat (first | with_reducible exact Grew.refl _ | with_reducible apply Grew.alloc | with_reducible apply Grew.grow | with_reducible apply Grew.drew | with_reducible apply Grew.drewN))⟩
  have ho : hok h = true := decide_eq_true (by omega)
  rw [ho, hpL_ok ho]
  obtain ⟨hn, NL⟩ := toNat_u64 (x := h.ht) (by omega) (by omega)
  have ht2 : ¬ (1048576 : Int) < h.ht := h2
  clear ho
  have hbi := h.hb
  have hno := h.hn
  have hbn : h.bi < 18446744073709551616 := by omega
  obtain ⟨m, hm⟩ : ∃ m, h.ht.toNat = m := ⟨_, rfl⟩
  rw [hm] at hn NL
  have HM := Lib.hid hm
  have HW := Lib.hid hw
  clear hm hw
  go_enter Try.func21, Try.ntmps21
  go_wp2_with (first | (go_at_call 46; refine (rbytes_w h.w _).mono ?_; rintro e w' ⟨rfl, δ, rfl⟩) | (go_at_call 47; refine stop_of ?_))
  unfold Stop
  refine Calls_abs ?_
  intro Z hZ
  have r1 : Z.rowAt w.heap.size = hda h.ht h.a.l h.b.l h.c.l h.d.l h.w.n h.bi h.no := by rw [hZ]; simp [go_sem]
  have r2 : Z.rowAt (w.heap.size + 1 + δ.n) = iv h.w.id.l := by rw [hZ]; simp [go_sem]
  have g0 : Grew w Z := by rw [hZ]; exact (by repeat (first | with_reducible exact Grew.refl _ | with_reducible apply Grew.alloc | with_reducible apply Grew.grow | with_reducible apply Grew.drew | with_reducible apply Grew.drewN))
  have z0 : Z.heap.size = w.heap.size + 1 + δ.n + 1 := by rw [hZ]; simp
  obtain ⟨g2, hg2⟩ : ∃ g2, w.heap.size + 1 + δ.n = g2 := ⟨_, rfl⟩
  rw [hg2] at r2 ⊢
  obtain ⟨s1, s2, s3, s4, s5, c0, c1, c2⟩ := Hd.slices (show w.heap.size < Z.heap.size by omega) (show g2 < Z.heap.size by omega) r1 r2
  have S := Lib.hid (And.intro s1 (And.intro s2 (And.intro s3 (And.intro s4 s5))))
  have C := Lib.hid (And.intro c1 c2)
  have G0 := Lib.hid g0
  clear s1 s2 s3 s4 s5 c0 c1 c2 g0 r1 r2 hg2 z0 hZ h1 h2 ht2
  refine (rput_w m 4 NL (by omega) _).mono ?_
  rintro e W0 ⟨cap, rfl, ho, hg⟩
  have HO0 := Lib.hid (show OwnR W0 Z.heap.size 5 _ (bys (putL m 4)) from ho)
  have G := Lib.hid hg
  clear ho hg hn
  go_wp2_with (at_builtin; refine stop_of ?_)
  unfold Stop
  refine wpList_appends rfl _ _ _ rfl _ ib _ 1 under_bs hi hz hsz hby rfl Z W0 _ _ rfl rfl _ (bys (h.a.l)) G.out (by exact HO0.out) (by exact S.out.1.grew G.out) (bys_one _) (by simp [bys_len, putL_len, ha, hb, hc, hd, HW.out, maxLen]) (by simp [bys_len, putL_len, ha, hb, hc, hd, HW.out]) ?_
  intro v1 W1 ho hg
  rw [← bys_append] at ho
  have HO1 := Lib.hid ho
  have G' := Lib.hid hg
  clear ho hg HO0 G
  have G := G'
  clear G'
  go_wp2_with (at_builtin; refine stop_of ?_)
  unfold Stop
  refine wpList_appends rfl _ _ _ rfl _ ib _ 1 under_bs hi hz hsz hby rfl Z W1 _ _ rfl rfl _ (bys (h.b.l)) G.out (by exact HO1.out) (by exact S.out.2.1.grew G.out) (bys_one _) (by simp [bys_len, putL_len, ha, hb, hc, hd, HW.out, maxLen]) (by simp [bys_len, putL_len, ha, hb, hc, hd, HW.out]) ?_
  intro v2 W2 ho hg
  rw [← bys_append] at ho
  have HO2 := Lib.hid ho
  have G' := Lib.hid hg
  clear ho hg HO1 G
  have G := G'
  clear G'
  go_wp2_with (at_builtin; refine stop_of ?_)
  unfold Stop
  refine wpList_appends rfl _ _ _ rfl _ ib _ 1 under_bs hi hz hsz hby rfl Z W2 _ _ rfl rfl _ (bys (h.c.l)) G.out (by exact HO2.out) (by exact S.out.2.2.1.grew G.out) (bys_one _) (by simp [bys_len, putL_len, ha, hb, hc, hd, HW.out, maxLen]) (by simp [bys_len, putL_len, ha, hb, hc, hd, HW.out]) ?_
  intro v3 W3 ho hg
  rw [← bys_append] at ho
  have HO3 := Lib.hid ho
  have G' := Lib.hid hg
  clear ho hg HO2 G
  have G := G'
  clear G'
  go_wp2_with (at_builtin; refine stop_of ?_)
  unfold Stop
  refine wpList_appends rfl _ _ _ rfl _ ib _ 1 under_bs hi hz hsz hby rfl Z W3 _ _ rfl rfl _ (bys (h.d.l)) G.out (by exact HO3.out) (by exact S.out.2.2.2.1.grew G.out) (bys_one _) (by simp [bys_len, putL_len, ha, hb, hc, hd, HW.out, maxLen]) (by simp [bys_len, putL_len, ha, hb, hc, hd, HW.out]) ?_
  intro v4 W4 ho hg
  rw [← bys_append] at ho
  have HO4 := Lib.hid ho
  have G' := Lib.hid hg
  clear ho hg HO3 G
  have G := G'
  clear G'
  go_wp2_with (at_builtin; refine stop_of ?_)
  unfold Stop
  refine wpList_appends rfl _ _ _ rfl _ ib _ 1 under_bs hi hz hsz hby rfl Z W4 _ _ rfl rfl _ (bys (h.w.id.l)) G.out (by exact HO4.out) (by exact S.out.2.2.2.2.grew G.out) (bys_one _) (by simp [bys_len, putL_len, ha, hb, hc, hd, HW.out, maxLen]) (by simp [bys_len, putL_len, ha, hb, hc, hd, HW.out]) ?_
  intro v5 W5 ho hg
  rw [← bys_append] at ho
  have HO5 := Lib.hid ho
  have G' := Lib.hid hg
  clear ho hg HO4 G
  have G := G'
  clear G'
  have cc := G.out.cell C.out.1
  go_wp2_with (go_at_call 47; refine stop_of ?_)
  unfold Stop
  refine (rput_w h.bi 4 hbn (by omega) _).mono ?_
  rintro e X4 ⟨cp4, rfl, ho, hg⟩
  have SH := Lib.hid ho.shows
  have HOx := Lib.hid (HO5.out.grew hg)
  have G' := Lib.hid (G.out.trans hg)
  clear ho hg cc HO5 G
  have G := G'
  clear G'
  go_wp2_with (at_builtin; refine stop_of ?_)
  unfold Stop
  refine wpList_appends rfl _ _ _ rfl _ ib _ 1 under_bs hi hz hsz hby rfl Z X4 _ _ rfl rfl _ (bys (putL h.bi 4)) G.out (by exact HOx.out) (by exact SH.out) (bys_one _) (by simp [bys_len, putL_len, ha, hb, hc, hd, HW.out, maxLen]) (by simp [bys_len, putL_len, ha, hb, hc, hd, HW.out]) ?_
  intro v6 W6 ho hg
  rw [← bys_append] at ho
  have HO6 := Lib.hid ho
  have G' := Lib.hid hg
  clear ho hg HOx G
  have G := G'
  clear G'
  clear SH
  have cc := G.out.cell C.out.2
  go_wp2_with (go_at_call 47; refine stop_of ?_)
  unfold Stop
  refine (rput_w h.no 8 hno (by omega) _).mono ?_
  rintro e X8 ⟨cp8, rfl, ho, hg⟩
  have SH := Lib.hid ho.shows
  have HOx := Lib.hid (HO6.out.grew hg)
  have G' := Lib.hid (G.out.trans hg)
  clear ho hg cc HO6 G
  have G := G'
  clear G'
  go_wp2_with (at_builtin; refine stop_of ?_)
  unfold Stop
  refine wpList_appends rfl _ _ _ rfl _ ib _ 1 under_bs hi hz hsz hby rfl Z X8 _ _ rfl rfl _ (bys (putL h.no 8)) G.out (by exact HOx.out) (by exact SH.out) (bys_one _) (by simp [bys_len, putL_len, ha, hb, hc, hd, HW.out, maxLen]) (by simp [bys_len, putL_len, ha, hb, hc, hd, HW.out]) ?_
  intro v7 W7 ho hg
  rw [← bys_append] at ho
  have HO7 := Lib.hid ho
  have G' := Lib.hid hg
  clear ho hg HOx G
  have G := G'
  clear G'
  clear SH
  have e : (((((((putL m 4) ++ h.a.l) ++ h.b.l) ++ h.c.l) ++ h.d.l) ++ h.w.id.l) ++ putL h.bi 4) ++ putL h.no 8 = hputL h := by simp [hputL, HM.out]
  have HF := HO7.out
  rw [e] at HF
  have HF := Lib.hid (ShowsC.own HF)
  clear e HO7
  go_wp2
  go_ret2
  exact ⟨_, rfl, HF.out, G0.out.trans G.out⟩
end Go.Proofs.Ytommbfgagalckaa
