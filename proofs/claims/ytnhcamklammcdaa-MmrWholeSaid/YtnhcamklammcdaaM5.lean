/- What the statements of this chapter rest on, part 5. Conditions: none. -/
import Derived.ScopeJumps
import Derived.WalkMore
import Derived.Test.YtnhcamklammcdaaM4
/- mmr's half and whole, the document's All (printed by gen_mmr3.py). -/
namespace Go.Proofs.Ytnhcamklammcdaa
set_option linter.unusedVariables false
set_option linter.unusedSimpArgs false
open Go.RowKit
set_option maxRecDepth 100000
set_option maxHeartbeats 1600000 in
theorem mhalf_w (n : Nat) (h2 : 2 ≤ n) (hn : n ≤ 1099511627776) (w : World) :
    Calls Try.prog 50 #[.int .i64 n] w fun e w' => e = .returned (.int .i64 (halfN n : Nat)) ∧ Grew w w' := by
  have hb := (half_sand n h2 hn).1
  have hle := Lib.bitLen_le (n - 1) 41 (by omega) (Nat.lt_of_lt_of_le (show n - 1 < 2 ^ 40 by omega) (by decide))
  obtain ⟨m, hm⟩ : ∃ m : Nat, (n : Int) - 1 = (m : Int) := ⟨n - 1, by omega⟩
  have hm2 : m = n - 1 := by omega
  have hm3 : (m : Int) ≤ 1099511627776 := by omega
  have hm4 : (n : Int) ≤ 1099511627776 := by omega
  obtain ⟨k, hk⟩ : ∃ k, Lib.bitLen m = k + 1 := ⟨Lib.bitLen m - 1, by rw [hm2]; omega⟩
  have hv : halfN n = 2 ^ k := by unfold halfN hexp; rw [← hm2, hk]; rfl
  have hk40 : k ≤ 40 := by rw [← hm2] at hle; omega
  have hl : ∀ w : World, Calls Try.prog 66 #[.int .u64 m] w fun e w' => e = .returned (.int .i64 ((k : Int) + 1)) ∧ Grew w w' := fun w => by
    have := len_w m (by omega) w
    rw [hk] at this
    exact this
  have hp : 2 ^ k ≤ 1099511627776 := Nat.pow_le_pow_right (show 0 < 2 by omega) hk40
  have HL := Lib.hid hl
  have HV := Lib.hid hv
  have HP := Lib.hid hp
  clear hb hle hk hv hl hm2 hn h2 hp
  go_enter Try.func50, Try.ntmps50
  go_wp2_with (go_at_call 66; refine (HL.out _).mono ?_; rintro e w' ⟨rfl, δ, rfl⟩)
  have hw : wrap64 ((2 : Int) ^ k) = ((halfN n : Nat) : Int) := by
    rw [HV.out]
    have h1 := HP.out
    have h2 : (2 : Int) ^ k = ((2 ^ k : Nat) : Int) := (Int.natCast_pow 2 k).symm
    rw [h2]
    generalize 2 ^ k = y at h1
    unfold wrap64
    omega
  go_ret
  exact ⟨congrArg (fun z => Ending.returned (.int .i64 z)) hw, (by repeat (first | with_reducible exact Grew.refl _ | with_reducible apply Grew.alloc | with_reducible apply Grew.grow | with_reducible apply Grew.drew | with_reducible apply Grew.drewN))⟩
def tnone : Tot := ⟨Idb.sum [4], Wd.zero, 0, by decide, by decide⟩
/-- The total of a list. -/
noncomputable def allF : Nat → List Tot → Tot
  | 0, _ => tnone
  | f + 1, ls => if ls.length ≤ 1 then ls.headD tnone else Tot.join (allF f (ls.take (halfN ls.length))) (allF f (ls.drop (halfN ls.length)))
noncomputable def allT (ls : List Tot) : Tot := allF ls.length ls
theorem allF_more : ∀ (f g : Nat) (ls : List Tot), ls.length ≤ 1099511627776 → ls.length ≤ f → ls.length ≤ g → allF f ls = allF g ls
  | 0, 0, _, _, _, _ => rfl
  | 0, g + 1, ls, _, h, _ => by
    obtain rfl : ls = [] := List.length_eq_zero_iff.1 (by omega)
    simp [allF]
  | f + 1, 0, ls, _, _, h => by
    obtain rfl : ls = [] := List.length_eq_zero_iff.1 (by omega)
    simp [allF]
  | f + 1, g + 1, ls, hb, h1, h2 => by
    unfold allF
    by_cases h : ls.length ≤ 1
    · rw [if_pos h, if_pos h]
    · rw [if_neg h, if_neg h]
      have hs := half_sand ls.length (by omega) hb
      have hp := half_pos ls.length
      rw [allF_more f g (ls.take (halfN ls.length)) (by rw [List.length_take]; omega) (by rw [List.length_take]; omega) (by rw [List.length_take]; omega),
        allF_more f g (ls.drop (halfN ls.length)) (by rw [List.length_drop]; omega) (by rw [List.length_drop]; omega) (by rw [List.length_drop]; omega)]
theorem allT_nil : allT [] = tnone := rfl
theorem allT_one (x : Tot) : allT [x] = x := by simp [allT, allF]
theorem allT_cut (ls : List Tot) (h : 2 ≤ ls.length) (hb : ls.length ≤ 1099511627776) : allT ls = Tot.join (allT (ls.take (halfN ls.length))) (allT (ls.drop (halfN ls.length))) := by
  have hs := half_sand ls.length h hb
  have hp := half_pos ls.length
  obtain ⟨f, hf⟩ : ∃ f, ls.length = f + 1 := ⟨ls.length - 1, by omega⟩
  have e : allT ls = allF (f + 1) ls := by unfold allT; rw [hf]
  rw [e, allF, if_neg (by omega)]
  unfold allT
  rw [allF_more f _ (ls.take (halfN ls.length)) (by rw [List.length_take]; omega) (by rw [List.length_take]; omega) (Nat.le_refl _),
    allF_more f _ (ls.drop (halfN ls.length)) (by rw [List.length_drop]; omega) (by rw [List.length_drop]; omega) (Nat.le_refl _)]
theorem rsum4_w (X : World) (g : Nat) (hg : g = X.heap.size) : Calls Try.prog 46 #[.slice (some ⟨g, 0, none⟩) 1 1] (X.alloc (.cells #[.int .u8 4] 5)) fun e w' => e = .returned (.agg (iv (Idb.sum [4]).l)) ∧ Grew (X.alloc (.cells #[.int .u8 4] 5)) w' := by
  subst hg
  exact rsum_w [4] _ _ (by decide) (by decide) (shows_one X (.int .u8 4) 5 1)
theorem sum4_w (X : World) (g : Nat) (hg : g = X.heap.size) : Calls Try.prog 38 #[.slice (some ⟨g, 0, none⟩) 1 1] (X.alloc (.cells #[.int .u8 4] 5)) fun e w' => e = .returned (.agg (iv (Idb.sum [4]).l)) ∧ Grew (X.alloc (.cells #[.int .u8 4] 5)) w' := by
  subst hg
  exact sum_w [4] _ _ (by decide) (by decide) (shows_one X (.int .u8 4) 5 1)
theorem rall_nil' (v : Value) (w : World) (hv : ShowsT w v []) : Calls Try.prog 28 #[v] w fun e w' => e = .returned (allT []).v ∧ Grew w w' := by
  obtain ⟨p, c, rfl⟩ := showsT_form hv
  clear hv
  have hsl := (Idb.sum [4]).len
  have hz := id0_len
  simp only [List.length_nil]
  go_enter Try.func28, Try.ntmps28
  go_wp2_with (go_at_call 46; refine stop_of ?_)
  unfold Stop
  refine (rsum4_w _ _ (by simp)).mono ?_
  rintro e w' ⟨rfl, δ, rfl⟩
  go_wp2
  exact bodyPost_ret (v := tnone.v) (tot_result rfl _ rfl (h := (Idb.sum [4]).l) (x := 0) (n := 0) (by simp [go_sem]) hsl) rfl ⟨by rw [allT_nil], (by repeat (first | with_reducible exact Grew.refl _ | with_reducible apply Grew.alloc | with_reducible apply Grew.grow | with_reducible apply Grew.drew | with_reducible apply Grew.drewN))⟩
set_option maxRecDepth 100000 in
set_option maxHeartbeats 3200000 in
theorem whole_w : ∀ (f : Nat) (ls : List Tot) (v : Value) (w : World), 1 ≤ ls.length → ls.length ≤ f → ls.length ≤ 1000000 → ShowsT w v ls → Calls Try.prog 32 #[v] w fun e w' => e = .returned (allT ls).v ∧ Grew w w' := by
  intro f
  induction f with
  | zero =>
    intro ls v w h0 hf _ hv
    omega
  | succ f ih =>
    intro ls v w h0 hf hl hv
    obtain ⟨p, c, rfl⟩ := showsT_form hv
    rcases Nat.lt_or_ge ls.length 2 with h2 | h2
    · rcases Nat.lt_or_ge ls.length 1 with h1 | h1
      · omega
      · obtain ⟨x, rfl⟩ : ∃ x, ls = [x] := List.length_eq_one_iff.1 (by omega)
        obtain ⟨b, o, rfl, _, hc, hb, hat⟩ := showsT_some hv (by simp)
        have hld := load_totm (rangeAt_grew (hat 0 x rfl) (show Grew w (w.alloc (.cells (ta id0 0 0) 29)) from (by repeat (first | with_reducible exact Grew.refl _ | with_reducible apply Grew.alloc | with_reducible apply Grew.grow | with_reducible apply Grew.drew | with_reducible apply Grew.drewN))))
        rw [Nat.zero_mul, Nat.add_zero] at hld
        have hx := x.h.len
        have hz := id0_len
        unfold Tot.v at hld
        simp only [List.length_cons, List.length_nil, Nat.zero_add] at *
        go_enter Try.func32, Try.ntmps32
        go_wp2_with fail
        exact bodyPost_ret (v := x.v) (tot_result rfl _ rfl (by simp [go_sem]) hx) rfl ⟨by rw [allT_one], (by repeat (first | with_reducible exact Grew.refl _ | with_reducible apply Grew.alloc | with_reducible apply Grew.grow | with_reducible apply Grew.drew | with_reducible apply Grew.drewN))⟩
    · obtain ⟨b, o, rfl, _, hc, hb, hat⟩ := showsT_some hv (by omega)
      have hs := half_sand ls.length h2 (by omega)
      have hp := half_pos ls.length
      obtain ⟨k, hk⟩ : ∃ k, halfN ls.length = k := ⟨_, rfl⟩
      have hcut := allT_cut ls h2 (by omega)
      rw [hk] at hs hp hcut
      have hl1 : (ls.take k).length = k := by rw [List.length_take]; omega
      have hl2 : (ls.drop k).length = ls.length - k := by rw [List.length_drop]
      have p1 : ShowsT w (.slice (some ⟨b, o, none⟩) k c) (ls.take k) := by
        have := showsT_part (o := o) hb hat 0 k c (by omega) (by omega)
        simpa using this
      have p2 : ShowsT w (.slice (some ⟨b, o + k * 37, none⟩) (ls.length - k) (c - k)) (ls.drop k) := by
        have := showsT_part (o := o) hb hat k (ls.length - k) (c - k) (by omega) (by omega)
        rwa [List.take_of_length_le (by omega)] at this
      have c1 : ∀ W, Grew w W → Calls Try.prog 32 #[.slice (some ⟨b, o, none⟩) k c] W fun e w' => e = .returned (allT (ls.take k)).v ∧ Grew W w' := fun W g => ih (ls.take k) _ W (by omega) (by omega) (by omega) (p1.grew g)
      have c2 : ∀ W, Grew w W → Calls Try.prog 32 #[.slice (some ⟨b, o + k * 37, none⟩) (ls.length - k) (c - k)] W fun e w' => e = .returned (allT (ls.drop k)).v ∧ Grew W w' := fun W g => ih (ls.drop k) _ W (by omega) (by omega) (by omega) (p2.grew g)
      have c3 : ∀ W : World, Calls Try.prog 50 #[.int .i64 ls.length] W fun e w' => e = .returned (.int .i64 (k : Nat)) ∧ Grew W w' := fun W => by rw [← hk]; exact mhalf_w ls.length h2 (by omega) W
      obtain ⟨N, hN⟩ : ∃ N, ls.length = N := ⟨_, rfl⟩
      rw [hN] at c2 c3 hs hc h2 ⊢
      have C1 := Lib.hid c1
      have C2 := Lib.hid c2
      have C3 := Lib.hid c3
      have HC := Lib.hid hcut
      have hx1 := (allT (ls.take k)).h.len
      have hx2 := (allT (ls.drop k)).h.len
      obtain ⟨ra, hA⟩ : ∃ A, allT (ls.take k) = A := ⟨_, rfl⟩
      obtain ⟨rb, hB⟩ : ∃ B, allT (ls.drop k) = B := ⟨_, rfl⟩
      rw [hA] at C1 HC hx1
      rw [hB] at C2 HC hx2
      have hj := (ra.join rb).h.len
      have jw := fun w => join_w ra rb w
      unfold Tot.v at jw
      have JW := Lib.hid jw
      clear jw
      have hz := id0_len
      unfold Tot.v at C1 C2
      have n0 : ¬ N = 0 := by omega
      have n1 : ¬ N = 1 := by omega
      have k1 : (k : Int) ≤ (c : Int) := by omega
      have k2 : (k : Int) ≤ (N : Int) := by omega
      have k3 : ¬ c = k := by omega
      clear h0 p1 p2 c1 c2 c3 hcut hv hat ih hl1 hl2 hA hB hk hN hf hl hs hp h2
      go_enter Try.func32, Try.ntmps32
      go_wp2_with (go_at_call 50; refine (C3.out _).mono ?_; rintro e w' ⟨rfl, δ, rfl⟩)
      refine wp_region_flowX [9] (by kernel_rfl) ?_
      intro δf
      apply wpFlowX_quiets [0,1,2,4,5,6] (by decide +kernel) (by decide +kernel) (by kernel_rfl) (by intro _ _ _ d _ h; cases d <;> exact h) _
      · intro A hA δ'
        simp only [pickOps_cons, pickOps_nil, pick1_zero, pick1_succ]
        repeat (go_big_quiet_step ((fail)))
        exact wpQuiet_nil hA.out.symm
      apply wpFlowX_quiets [3] (by decide +kernel) (by decide +kernel) (by kernel_rfl) (by intro _ _ _ d _ h; cases d <;> exact h) _
      · intro A hA δ'
        simp only [pickOps_cons, pickOps_nil, pick1_zero, pick1_succ]
        repeat (go_big_quiet_step ((go_at_call 32; exact Calls.pure_of_g4 (C1.out _ (by repeat (first | with_reducible exact Grew.refl _ | with_reducible apply Grew.alloc | with_reducible apply Grew.grow | with_reducible apply Grew.drew | with_reducible apply Grew.drewN))))))
        exact wpQuiet_nil hA.out.symm
      apply wpFlowX_quiets [7] (by decide +kernel) (by decide +kernel) (by kernel_rfl) (by intro _ _ _ d _ h; cases d <;> exact h) _
      · intro A hA δ'
        simp only [pickOps_cons, pickOps_nil, pick1_zero, pick1_succ]
        repeat (go_big_quiet_step ((go_at_call 32; exact Calls.pure_of_g4 (C2.out _ (by repeat (first | with_reducible exact Grew.refl _ | with_reducible apply Grew.alloc | with_reducible apply Grew.grow | with_reducible apply Grew.drew | with_reducible apply Grew.drewN))))))
        exact wpQuiet_nil hA.out.symm
      apply wpFlowX_quiets [8] (by decide +kernel) (by decide +kernel) (by kernel_rfl) (by intro _ _ _ d _ h; cases d <;> exact h) _
      · intro A hA δ'
        simp only [pickOps_cons, pickOps_nil, pick1_zero, pick1_succ]
        repeat (go_big_quiet_step ((go_at_call 20; exact Calls.pure_of_g4 (JW.out _))))
        exact wpQuiet_nil hA.out.symm
      refine wpFlowX_esc 9 (by decide +kernel) (by kernel_rfl) (by decide +kernel) (by decide +kernel) ?_
      simp only [pickOps_cons, pickOps_nil, pick1_zero, pick1_succ]
      intro δf
      go_wp2
      refine wpAny_end (by decide +kernel) (by kernel_rfl) ?_
      go_wp2
      exact bodyPost_ret (v := (ra.join rb).v) (tot_result rfl _ rfl (h := (ra.join rb).h.l) (x := (ra.join rb).w.n) (n := (ra.join rb).n) (by simp [go_sem]) hj) rfl ⟨by rw [HC.out], (by repeat (first | with_reducible exact Grew.refl _ | with_reducible apply Grew.alloc | with_reducible apply Grew.grow | with_reducible apply Grew.drew | with_reducible apply Grew.drewN))⟩
set_option maxRecDepth 100000 in
set_option maxHeartbeats 3200000 in
theorem rall_w : ∀ (f : Nat) (ls : List Tot) (v : Value) (w : World), ls.length ≤ f → ls.length ≤ 1000000 → ShowsT w v ls → Calls Try.prog 28 #[v] w fun e w' => e = .returned (allT ls).v ∧ Grew w w' := by
  intro f
  induction f with
  | zero =>
    intro ls v w hf _ hv
    obtain rfl : ls = [] := List.length_eq_zero_iff.1 (by omega)
    exact rall_nil' v w hv
  | succ f ih =>
    intro ls v w hf hl hv
    obtain ⟨p, c, rfl⟩ := showsT_form hv
    rcases Nat.lt_or_ge ls.length 2 with h2 | h2
    · rcases Nat.lt_or_ge ls.length 1 with h1 | h1
      · obtain rfl : ls = [] := List.length_eq_zero_iff.1 (by omega)
        exact (rall_nil' _ w hv)
      · obtain ⟨x, rfl⟩ : ∃ x, ls = [x] := List.length_eq_one_iff.1 (by omega)
        obtain ⟨b, o, rfl, _, hc, hb, hat⟩ := showsT_some hv (by simp)
        have hld := load_totm (rangeAt_grew (hat 0 x rfl) (show Grew w (w.alloc (.cells (ta id0 0 0) 29)) from (by repeat (first | with_reducible exact Grew.refl _ | with_reducible apply Grew.alloc | with_reducible apply Grew.grow | with_reducible apply Grew.drew | with_reducible apply Grew.drewN))))
        rw [Nat.zero_mul, Nat.add_zero] at hld
        have hx := x.h.len
        have hz := id0_len
        unfold Tot.v at hld
        simp only [List.length_cons, List.length_nil, Nat.zero_add] at *
        go_enter Try.func28, Try.ntmps28
        go_wp2_with fail
        exact bodyPost_ret (v := x.v) (tot_result rfl _ rfl (by simp [go_sem]) hx) rfl ⟨by rw [allT_one], (by repeat (first | with_reducible exact Grew.refl _ | with_reducible apply Grew.alloc | with_reducible apply Grew.grow | with_reducible apply Grew.drew | with_reducible apply Grew.drewN))⟩
    · obtain ⟨b, o, rfl, _, hc, hb, hat⟩ := showsT_some hv (by omega)
      have hs := half_sand ls.length h2 (by omega)
      have hp := half_pos ls.length
      obtain ⟨k, hk⟩ : ∃ k, halfN ls.length = k := ⟨_, rfl⟩
      have hcut := allT_cut ls h2 (by omega)
      rw [hk] at hs hp hcut
      have z1 := ih (ls.take k) (.slice (some ⟨b, o, none⟩) k c)
      have hl1 : (ls.take k).length = k := by rw [List.length_take]; omega
      have hl2 : (ls.drop k).length = ls.length - k := by rw [List.length_drop]
      have p1 : ShowsT w (.slice (some ⟨b, o, none⟩) k c) (ls.take k) := by
        have := showsT_part (o := o) hb hat 0 k c (by omega) (by omega)
        simpa using this
      have p2 : ShowsT w (.slice (some ⟨b, o + k * 37, none⟩) (ls.length - k) (c - k)) (ls.drop k) := by
        have := showsT_part (o := o) hb hat k (ls.length - k) (c - k) (by omega) (by omega)
        rwa [List.take_of_length_le (by omega)] at this
      have c1 : ∀ W, Grew w W → Calls Try.prog 28 #[.slice (some ⟨b, o, none⟩) k c] W fun e w' => e = .returned (allT (ls.take k)).v ∧ Grew W w' := fun W g => ih (ls.take k) _ W (by omega) (by omega) (p1.grew g)
      have c2 : ∀ W, Grew w W → Calls Try.prog 28 #[.slice (some ⟨b, o + k * 37, none⟩) (ls.length - k) (c - k)] W fun e w' => e = .returned (allT (ls.drop k)).v ∧ Grew W w' := fun W g => ih (ls.drop k) _ W (by omega) (by omega) (p2.grew g)
      have c3 : ∀ W : World, Calls Try.prog 47 #[.int .i64 ls.length] W fun e w' => e = .returned (.int .i64 (k : Nat)) ∧ Grew W w' := fun W => by rw [← hk]; exact rhalf_w ls.length h2 (by omega) W
      obtain ⟨N, hN⟩ : ∃ N, ls.length = N := ⟨_, rfl⟩
      rw [hN] at c2 c3 hs hc h2 ⊢
      have C1 := Lib.hid c1
      have C2 := Lib.hid c2
      have C3 := Lib.hid c3
      have HC := Lib.hid hcut
      have hx1 := (allT (ls.take k)).h.len
      have hx2 := (allT (ls.drop k)).h.len
      obtain ⟨ra, hA⟩ : ∃ A, allT (ls.take k) = A := ⟨_, rfl⟩
      obtain ⟨rb, hB⟩ : ∃ B, allT (ls.drop k) = B := ⟨_, rfl⟩
      rw [hA] at C1 HC hx1
      rw [hB] at C2 HC hx2
      have hj := (ra.join rb).h.len
      have jw := fun w => rjoin_w ra rb w
      unfold Tot.v at jw
      have JW := Lib.hid jw
      clear jw
      have hz := id0_len
      unfold Tot.v at C1 C2
      have n0 : ¬ N = 0 := by omega
      have n1 : ¬ N = 1 := by omega
      have k1 : (k : Int) ≤ (c : Int) := by omega
      have k2 : (k : Int) ≤ (N : Int) := by omega
      have k3 : ¬ c = k := by omega
      clear z1 p1 p2 c1 c2 c3 hcut hv hat ih hl1 hl2 hA hB hk hN hf hl hs hp h2
      go_enter Try.func28, Try.ntmps28
      go_wp2_with (go_at_call 47; refine (C3.out _).mono ?_; rintro e w' ⟨rfl, δ, rfl⟩)
      refine wp_region_flowX [9] (by kernel_rfl) ?_
      intro δf
      apply wpFlowX_quiets [0,1,2,4,5,6] (by decide +kernel) (by decide +kernel) (by kernel_rfl) (by intro _ _ _ d _ h; cases d <;> exact h) _
      · intro A hA δ'
        simp only [pickOps_cons, pickOps_nil, pick1_zero, pick1_succ]
        repeat (go_big_quiet_step ((fail)))
        exact wpQuiet_nil hA.out.symm
      apply wpFlowX_quiets [3] (by decide +kernel) (by decide +kernel) (by kernel_rfl) (by intro _ _ _ d _ h; cases d <;> exact h) _
      · intro A hA δ'
        simp only [pickOps_cons, pickOps_nil, pick1_zero, pick1_succ]
        repeat (go_big_quiet_step ((go_at_call 28; exact Calls.pure_of_g4 (C1.out _ (by repeat (first | with_reducible exact Grew.refl _ | with_reducible apply Grew.alloc | with_reducible apply Grew.grow | with_reducible apply Grew.drew | with_reducible apply Grew.drewN))))))
        exact wpQuiet_nil hA.out.symm
      apply wpFlowX_quiets [7] (by decide +kernel) (by decide +kernel) (by kernel_rfl) (by intro _ _ _ d _ h; cases d <;> exact h) _
      · intro A hA δ'
        simp only [pickOps_cons, pickOps_nil, pick1_zero, pick1_succ]
        repeat (go_big_quiet_step ((go_at_call 28; exact Calls.pure_of_g4 (C2.out _ (by repeat (first | with_reducible exact Grew.refl _ | with_reducible apply Grew.alloc | with_reducible apply Grew.grow | with_reducible apply Grew.drew | with_reducible apply Grew.drewN))))))
        exact wpQuiet_nil hA.out.symm
      apply wpFlowX_quiets [8] (by decide +kernel) (by decide +kernel) (by kernel_rfl) (by intro _ _ _ d _ h; cases d <;> exact h) _
      · intro A hA δ'
        simp only [pickOps_cons, pickOps_nil, pick1_zero, pick1_succ]
        repeat (go_big_quiet_step ((go_at_call 21; exact Calls.pure_of_g4 (JW.out _))))
        exact wpQuiet_nil hA.out.symm
      refine wpFlowX_esc 9 (by decide +kernel) (by kernel_rfl) (by decide +kernel) (by decide +kernel) ?_
      simp only [pickOps_cons, pickOps_nil, pick1_zero, pick1_succ]
      intro δf
      go_wp2
      refine wpAny_end (by decide +kernel) (by kernel_rfl) ?_
      go_wp2
      exact bodyPost_ret (v := (ra.join rb).v) (tot_result rfl _ rfl (h := (ra.join rb).h.l) (x := (ra.join rb).w.n) (n := (ra.join rb).n) (by simp [go_sem]) hj) rfl ⟨by rw [HC.out], (by repeat (first | with_reducible exact Grew.refl _ | with_reducible apply Grew.alloc | with_reducible apply Grew.grow | with_reducible apply Grew.drew | with_reducible apply Grew.drewN))⟩
end Go.Proofs.Ytnhcamklammcdaa
/- Where a leaf stands. No program in sight. -/
namespace Go.Proofs.Ytnhcamklammcdaa
set_option linter.unusedVariables false
set_option linter.unusedSimpArgs false
open Go.RowKit
/-- Where leaf 'i' of 'n' stands, from the greatest tree on: 0 is left, 1 is right. -/
def down : Nat → Nat → Nat → List Nat
  | 0, _, _ => []
  | f + 1, n, i => if n ≤ 1 then [] else if i < halfN n then 0 :: down f (halfN n) i else 1 :: down f (n - halfN n) (i - halfN n)
def side (n i : Nat) : List Nat := down n n i
theorem down_fuel : ∀ (f f' n i : Nat), n ≤ 1099511627776 → n ≤ f → n ≤ f' → down f n i = down f' n i
  | 0, f', n, i, _, h, _ => by
    obtain rfl : n = 0 := by omega
    cases f' with
    | zero => rfl
    | succ f' => simp [down]
  | f + 1, 0, n, i, _, _, h => by
    obtain rfl : n = 0 := by omega
    simp [down]
  | f + 1, f' + 1, n, i, hb, h, h' => by
    unfold down
    by_cases h1 : n ≤ 1
    · rw [if_pos h1, if_pos h1]
    · rw [if_neg h1, if_neg h1]
      have hs := half_sand n (by omega) hb
      have hp := half_pos n
      rw [down_fuel f f' (halfN n) i (by omega) (by omega) (by omega), down_fuel f f' (n - halfN n) (i - halfN n) (by omega) (by omega) (by omega)]
theorem side_one (n i : Nat) (h : n ≤ 1) : side n i = [] := by
  unfold side
  cases n with
  | zero => rfl
  | succ n => simp [down, h]
theorem side_left (n i : Nat) (h2 : 2 ≤ n) (hb : n ≤ 1099511627776) (h : i < halfN n) : side n i = 0 :: side (halfN n) i := by
  obtain ⟨m, rfl⟩ : ∃ m, n = m + 1 := ⟨n - 1, by omega⟩
  have hs := half_sand (m + 1) h2 hb
  unfold side
  rw [down, if_neg (by omega), if_pos h, down_fuel m (halfN (m + 1)) _ _ (by omega) (by omega) (by omega)]
theorem side_right (n i : Nat) (h2 : 2 ≤ n) (hb : n ≤ 1099511627776) (h : ¬ i < halfN n) : side n i = 1 :: side (n - halfN n) (i - halfN n) := by
  obtain ⟨m, rfl⟩ : ∃ m, n = m + 1 := ⟨n - 1, by omega⟩
  have hs := half_sand (m + 1) h2 hb
  have hp := half_pos (m + 1)
  unfold side
  rw [down, if_neg (by omega), if_neg h, down_fuel m (m + 1 - halfN (m + 1)) _ _ (by omega) (by omega) (by omega)]
theorem down_len : ∀ (f n i : Nat), n ≤ 1099511627776 → (down f n i).length + 1 ≤ max n 1
  | 0, n, i, _ => by simp [down]; omega
  | f + 1, n, i, hb => by
    unfold down
    split
    · simp; omega
    · have hs := half_sand n (by omega) hb
      have hp := half_pos n
      split
      · have := down_len f (halfN n) i (by omega); simp only [List.length_cons]; omega
      · have := down_len f (n - halfN n) (i - halfN n) (by omega); simp only [List.length_cons]; omega
theorem side_len (n i : Nat) (h1 : 1 ≤ n) (hb : n ≤ 1099511627776) : (side n i).length < n := by
  have := down_len n n i hb
  unfold side
  omega
end Go.Proofs.Ytnhcamklammcdaa
/- The document's path and Path over totals (printed by gen_mmr4.py). -/
namespace Go.Proofs.Ytnhcamklammcdaa
set_option linter.unusedVariables false
set_option linter.unusedSimpArgs false
open Go.RowKit
set_option maxRecDepth 100000
/-- What leads to the allT from a leaf. -/
noncomputable def pathTF : Nat → List Tot → Nat → List Tot
  | 0, _, _ => []
  | f + 1, ls, i => if ls.length ≤ 1 then [] else if i < halfN ls.length then pathTF f (ls.take (halfN ls.length)) i ++ [allT (ls.drop (halfN ls.length))] else pathTF f (ls.drop (halfN ls.length)) (i - halfN ls.length) ++ [allT (ls.take (halfN ls.length))]
noncomputable def pathT (ls : List Tot) (i : Nat) : List Tot := pathTF ls.length ls i
theorem pathTF_more : ∀ (f g : Nat) (ls : List Tot) (i : Nat), ls.length ≤ 1099511627776 → ls.length ≤ f → ls.length ≤ g → pathTF f ls i = pathTF g ls i
  | 0, 0, _, _, _, _, _ => rfl
  | 0, g + 1, ls, i, _, h, _ => by
    obtain rfl : ls = [] := List.length_eq_zero_iff.1 (by omega)
    simp [pathTF]
  | f + 1, 0, ls, i, _, _, h => by
    obtain rfl : ls = [] := List.length_eq_zero_iff.1 (by omega)
    simp [pathTF]
  | f + 1, g + 1, ls, i, hb, h1, h2 => by
    unfold pathTF
    by_cases h : ls.length ≤ 1
    · rw [if_pos h, if_pos h]
    · rw [if_neg h, if_neg h]
      have hs := half_sand ls.length (by omega) hb
      have hp := half_pos ls.length
      rw [pathTF_more f g (ls.take (halfN ls.length)) i (by rw [List.length_take]; omega) (by rw [List.length_take]; omega) (by rw [List.length_take]; omega),
        pathTF_more f g (ls.drop (halfN ls.length)) _ (by rw [List.length_drop]; omega) (by rw [List.length_drop]; omega) (by rw [List.length_drop]; omega)]
theorem pathT_one (ls : List Tot) (i : Nat) (h : ls.length ≤ 1) : pathT ls i = [] := by
  unfold pathT
  obtain ⟨f, hf⟩ | h0 : (∃ f, ls.length = f + 1) ∨ ls.length = 0 := by
    rcases Nat.eq_zero_or_pos ls.length with h0 | h0
    · exact .inr h0
    · exact .inl ⟨ls.length - 1, by omega⟩
  · rw [hf, pathTF, if_pos h]
  · rw [h0]; rfl
theorem pathT_left (ls : List Tot) (i : Nat) (h : 2 ≤ ls.length) (hb : ls.length ≤ 1099511627776) (hi : i < halfN ls.length) : pathT ls i = pathT (ls.take (halfN ls.length)) i ++ [allT (ls.drop (halfN ls.length))] := by
  have hs := half_sand ls.length h hb
  have hp := half_pos ls.length
  obtain ⟨f, hf⟩ : ∃ f, ls.length = f + 1 := ⟨ls.length - 1, by omega⟩
  have e : pathT ls i = pathTF (f + 1) ls i := by unfold pathT; rw [hf]
  rw [e, pathTF, if_neg (by omega), if_pos hi]
  unfold pathT
  rw [pathTF_more f _ (ls.take (halfN ls.length)) i (by rw [List.length_take]; omega) (by rw [List.length_take]; omega) (Nat.le_refl _)]
theorem pathT_right (ls : List Tot) (i : Nat) (h : 2 ≤ ls.length) (hb : ls.length ≤ 1099511627776) (hi : ¬ i < halfN ls.length) : pathT ls i = pathT (ls.drop (halfN ls.length)) (i - halfN ls.length) ++ [allT (ls.take (halfN ls.length))] := by
  have hs := half_sand ls.length h hb
  have hp := half_pos ls.length
  obtain ⟨f, hf⟩ : ∃ f, ls.length = f + 1 := ⟨ls.length - 1, by omega⟩
  have e : pathT ls i = pathTF (f + 1) ls i := by unfold pathT; rw [hf]
  rw [e, pathTF, if_neg (by omega), if_neg hi]
  unfold pathT
  rw [pathTF_more f _ (ls.drop (halfN ls.length)) _ (by rw [List.length_drop]; omega) (by rw [List.length_drop]; omega) (Nat.le_refl _)]
theorem pathTF_len : ∀ (f : Nat) (ls : List Tot) (i : Nat), ls.length ≤ 1099511627776 → (pathTF f ls i).length = (down f ls.length i).length
  | 0, _, _, _ => rfl
  | f + 1, ls, i, hb => by
    unfold pathTF down
    by_cases h : ls.length ≤ 1
    · rw [if_pos h, if_pos h]; rfl
    · have hs := half_sand ls.length (by omega) hb
      rw [if_neg h, if_neg h]
      split
      · rw [List.length_append, pathTF_len f _ _ (by rw [List.length_take]; omega), List.length_take, Nat.min_eq_left (by omega)]; rfl
      · rw [List.length_append, pathTF_len f _ _ (by rw [List.length_drop]; omega), List.length_drop]; rfl
theorem pathT_len (ls : List Tot) (i : Nat) (hb : ls.length ≤ 1099511627776) : (pathT ls i).length = (side ls.length i).length := pathTF_len _ ls i hb
def tpathOk (ls : List Tot) (i : Int) : Bool := decide (ls.length ≤ 64 ∧ 0 ≤ i ∧ i < (ls.length : Int))
noncomputable def tpathOf (ls : List Tot) (i : Int) : List Tot := if tpathOk ls i = true then pathT ls i.toNat else []
theorem tpathOk_no {ls : List Tot} {i : Int} (h : ¬ (ls.length ≤ 64 ∧ 0 ≤ i ∧ i < (ls.length : Int))) : tpathOk ls i = false ∧ tpathOf ls i = [] := by
  have : tpathOk ls i = false := decide_eq_false h
  refine ⟨this, ?_⟩
  unfold tpathOf
  rw [if_neg (by rw [this]; decide)]
set_option maxRecDepth 100000 in
set_option maxHeartbeats 6400000 in
theorem rpathT_w : ∀ (f : Nat) (ls : List Tot) (i : Nat) (v : Value) (w : World), ls.length ≤ f → 1 ≤ ls.length → ls.length ≤ 1000 → i < ls.length → ShowsT w v ls →
    Calls Try.prog 33 #[v, .int .i64 i] w fun e w' => ∃ v', e = .returned v' ∧ OwnT w' w.heap.size 29 v' (pathT ls i) ∧ Grew w w' := by
  obtain ⟨ii, hif, hz, hsz, hby⟩ := info_t
  intro f
  induction f with
  | zero => intro ls i v w h1 h2; omega
  | succ f ih =>
    intro ls i v w hf h1 hl hi hv
    rcases Nat.lt_or_ge ls.length 2 with h2 | h2
    · obtain ⟨p, c, rfl⟩ := showsT_form hv
      have hl1 : ls.length = 1 := by omega
      rw [pathT_one ls i (by omega)]
      rw [hl1]
      clear hv ih
      go_enter Try.func33, Try.ntmps33
      go_wp2
      go_ret
      exact ⟨_, rfl, OwnE.nil _ _ _, (by repeat (first | with_reducible exact Grew.refl _ | with_reducible apply Grew.alloc | with_reducible apply Grew.grow | with_reducible apply Grew.drew | with_reducible apply Grew.drewN))⟩
    · obtain ⟨b, o, hvv, hat⟩ : ∃ b o, (∃ c, v = .slice (some ⟨b, o, none⟩) ls.length c ∧ ls.length ≤ c ∧ b < w.heap.size) ∧ ∀ j x, ls[j]? = some x → w.rangeAt b (o + j * 37) x.cs := by
        obtain ⟨p, c, rfl⟩ := showsT_form hv
        obtain ⟨b, o, rfl, _, hc, hb, hat⟩ := showsT_some hv (by omega)
        exact ⟨b, o, ⟨c, rfl, hc, hb⟩, hat⟩
      obtain ⟨c, rfl, hc, hb⟩ := hvv
      have hs := half_sand ls.length h2 (by omega)
      have hp := half_pos ls.length
      have pl := pathT_left ls i h2 (by omega)
      have pr := pathT_right ls i h2 (by omega)
      obtain ⟨k, hk⟩ : ∃ k, halfN ls.length = k := ⟨_, rfl⟩
      rw [hk] at hs hp pl pr
      have hl1 : (ls.take k).length = k := by rw [List.length_take]; omega
      have hl2 : (ls.drop k).length = ls.length - k := by rw [List.length_drop]
      have p1 : ShowsT w (.slice (some ⟨b, o, none⟩) k c) (ls.take k) := by
        have := showsT_part (o := o) hb hat 0 k c (by omega) (by omega)
        simpa using this
      have p2 : ShowsT w (.slice (some ⟨b, o + k * 37, none⟩) (ls.length - k) (c - k)) (ls.drop k) := by
        have := showsT_part (o := o) hb hat k (ls.length - k) (c - k) (by omega) (by omega)
        rwa [List.take_of_length_le (by omega)] at this
      have c3 : ∀ W : World, Calls Try.prog 47 #[.int .i64 ls.length] W fun e w' => e = .returned (.int .i64 (k : Nat)) ∧ Grew W w' := fun W => by rw [← hk]; exact rhalf_w ls.length h2 (by omega) W
      have r1 : ∀ W, Grew w W → Calls Try.prog 28 #[.slice (some ⟨b, o, none⟩) k c] W fun e w' => e = .returned (allT (ls.take k)).v ∧ Grew W w' := fun W g => rall_w _ _ _ W (Nat.le_refl _) (by omega) (p1.grew g)
      have r2 : ∀ W, Grew w W → Calls Try.prog 28 #[.slice (some ⟨b, o + k * 37, none⟩) (ls.length - k) (c - k)] W fun e w' => e = .returned (allT (ls.drop k)).v ∧ Grew W w' := fun W g => rall_w _ _ _ W (Nat.le_refl _) (by omega) (p2.grew g)
      have k3 : ¬ c = k := by omega
      have k1 : (k : Int) ≤ (c : Int) := by omega
      have hlk : k < ls.length := hs.2.1
      by_cases hik : i < k
      · have hik' : (i : Int) < (k : Int) := by omega
        have HP := Lib.hid (pl hik)
        have C1 := Lib.hid (fun W (g : Grew w W) => ih (ls.take k) i _ W (by omega) (by omega) (by omega) (by omega) (p1.grew g))
        have hpl : (pathT (ls.take k) i).length < k := by rw [pathT_len _ _ (by omega), hl1]; exact side_len k i (by omega) (by omega)
        unfold Tot.v at r2
        have R1 := Lib.hid r2
        have C3 := Lib.hid c3
        have hdl : (pathT (ls.take k) i).length + 1 ≤ 20000 := by omega
        have hNI : (ls.length : Int) ≤ 1000 := by omega
        have hkN : (k : Int) ≤ (ls.length : Int) := by omega
        have hk0 : 1 ≤ (k : Int) := by omega
        have hxo := (allT (ls.drop k)).h.len
        obtain ⟨x, hx⟩ : ∃ x, allT (ls.drop k) = x := ⟨_, rfl⟩
        rw [hx] at HP R1 hxo
        have n1 : ¬ (ls.length : Int) = 1 := by omega
        clear ih hv r1 r2 c3 pl pr p1 p2 hat hx hl1 hl2 hk
        obtain ⟨N, hN⟩ : ∃ N, ls.length = N := ⟨_, rfl⟩
        simp only [hN] at C1 C3 R1 hNI hkN n1 hc ⊢
        clear hs hp h2 h1 hf hl hi hpl hik hlk
        go_enter Try.func33, Try.ntmps33
        go_wp2_with (go_at_call 47; refine (C3.out _).mono ?_; rintro e w' ⟨rfl, δ, rfl⟩)
        refine wp_region_flowX [10,11] (by kernel_rfl) ?_
        intro δf
        apply wpFlowX_quiets [0,1,2,3,5,6,7] (by decide +kernel) (by decide +kernel) (by kernel_rfl) (by intro _ _ _ d _ h; cases d <;> exact h) _
        · intro A hA δ'
          simp only [pickOps_cons, pickOps_nil, pick1_zero, pick1_succ]
          repeat (go_big_quiet_step ((fail)))
          exact wpQuiet_nil hA.out.symm
        refine wpFlowX_one 4 (by decide +kernel) (by kernel_rfl) (by decide +kernel) (by decide +kernel) ?_
        simp only [pickOps_cons, pickOps_nil, pick1_zero, pick1_succ]
        intro δf
        go_wp2_with ((go_at_call 33; refine (C1.out _ (by repeat (first | with_reducible exact Grew.refl _ | with_reducible apply Grew.alloc | with_reducible apply Grew.grow | with_reducible apply Grew.drew | with_reducible apply Grew.drewN))).mono ?_; rintro e W1 ⟨v1, rfl, ho, hg⟩))
        refine ⟨(by first | assumption | (simp only [grow_grow, Array.append_assoc]; assumption) | exact Grew.refl _ | (simp only [grow_grow, Array.append_assoc]; exact (by repeat (first | with_reducible exact Grew.refl _ | with_reducible apply Grew.alloc | with_reducible apply Grew.grow | with_reducible apply Grew.drew | with_reducible apply Grew.drewN))) | exact (by repeat (first | with_reducible exact Grew.refl _ | with_reducible apply Grew.alloc | with_reducible apply Grew.grow | with_reducible apply Grew.drew | with_reducible apply Grew.drewN))), ?_⟩
        have gw1 : Grew w W1 := Grew.trans ⟨_, rfl⟩ hg
        have ho1 := ho.base (Grew.size (a := w) ⟨_, rfl⟩)
        have HO1 := Lib.hid ho1
        have G1 := Lib.hid gw1
        have zB : w.heap.size ≤ W1.heap.size := gw1.size
        clear ho hg gw1 ho1
        apply wpFlowX_quiets [8] (by decide +kernel) (by decide +kernel) (by kernel_rfl) (by intro _ _ _ d _ h; cases d <;> exact h) _
        · intro A hA δ'
          simp only [pickOps_cons, pickOps_nil, pick1_zero, pick1_succ]
          repeat (go_big_quiet_step ((go_at_call 28; exact Calls.pure_of_g (R1.out _ (G1.out.trans (by repeat (first | with_reducible exact Grew.refl _ | with_reducible apply Grew.alloc | with_reducible apply Grew.grow | with_reducible apply Grew.drew | with_reducible apply Grew.drewN)))))))
          exact wpQuiet_nil hA.out.symm
        refine wpFlowX_one 9 (by decide +kernel) (by kernel_rfl) (by decide +kernel) (by decide +kernel) ?_
        simp only [pickOps_cons, pickOps_nil, pick1_zero, pick1_succ]
        intro δf
        go_wp2_with (fail)
        refine ⟨(by first | assumption | (simp only [grow_grow, Array.append_assoc]; assumption) | exact Grew.refl _ | (simp only [grow_grow, Array.append_assoc]; exact (by repeat (first | with_reducible exact Grew.refl _ | with_reducible apply Grew.alloc | with_reducible apply Grew.grow | with_reducible apply Grew.drew | with_reducible apply Grew.drewN))) | exact (by repeat (first | with_reducible exact Grew.refl _ | with_reducible apply Grew.alloc | with_reducible apply Grew.grow | with_reducible apply Grew.drew | with_reducible apply Grew.drewN))), ?_⟩
        refine wpFlowX_esc 10 (by decide +kernel) (by kernel_rfl) (by decide +kernel) (by decide +kernel) ?_
        simp only [pickOps_cons, pickOps_nil, pick1_zero, pick1_succ]
        intro δf
        refine wpList_abs ?_
        intro X hX
        have gX : Grew W1 X := by rw [hX]; exact (by repeat (first | with_reducible exact Grew.refl _ | with_reducible apply Grew.alloc | with_reducible apply Grew.grow | with_reducible apply Grew.drew | with_reducible apply Grew.drewN))
        refine wpList_appendE Tot.cs_len (by decide) rfl _ _ _ rfl _ ii _ 72 under_ts hif hz hsz hby tot0_cells Tot.cs_one w X w.heap.size _ _ rfl rfl (pathT (ls.take k) i) [x] (G1.out.trans gX) (Nat.le_refl _) (Nat.le_trans zB gX.size) (by exact HO1.out.grew gX) (by rw [hX]; exact (showsE_one_g Tot.cs_len _ _ x _ _ (by omega)).grew ⟨_, rfl⟩) (by simp only [maxLen, List.length_cons, List.length_nil]; omega) (by simp only [List.length_cons, List.length_nil]; omega) (by simp) ?_
        intro v2 W2 ho2 hg2 _
        rw [← HP.out] at ho2
        have HG2 := Lib.hid hg2
        have HO2 := Lib.hid ho2
        clear ho2 hg2 hX gX
        refine wpList_nil_then ?_
        refine wpAny_one 11 (by decide +kernel) (by kernel_rfl) (by decide +kernel) ?_
        simp only [pickOps_cons, pickOps_nil, pick1_zero, pick1_succ]
        go_wp2_with (fail)
        refine wpAny_end (by decide +kernel) (by kernel_rfl) ?_
        go_wp2
        go_ret
        exact ⟨_, rfl, HO2.out, HG2.out⟩
      · have hik' : ¬ (i : Int) < (k : Int) := by omega
        have HP := Lib.hid (pr hik)
        have hij : (i : Int) - (k : Int) = ((i - k : Nat) : Int) := by omega
        have C1 := Lib.hid (fun W (g : Grew w W) => ih (ls.drop k) (i - k) _ W (by omega) (by omega) (by omega) (by omega) (p2.grew g))
        have hpl : (pathT (ls.drop k) (i - k)).length < ls.length := by rw [pathT_len _ _ (by omega), hl2]; have := side_len (ls.length - k) (i - k) (by omega) (by omega); omega
        have hiI : (i : Int) ≤ 1000 := by omega
        have hki : (k : Int) ≤ (i : Int) := by omega
        obtain ⟨j, hj⟩ : ∃ j, i - k = j := ⟨_, rfl⟩
        have hjI : (j : Int) ≤ 1000 := by omega
        rw [hj] at HP hij C1 hpl
        unfold Tot.v at r1
        have R1 := Lib.hid r1
        have C3 := Lib.hid c3
        have hdl : (pathT (ls.drop k) j).length + 1 ≤ 20000 := by omega
        have hNI : (ls.length : Int) ≤ 1000 := by omega
        have hkN : (k : Int) ≤ (ls.length : Int) := by omega
        have hk0 : 1 ≤ (k : Int) := by omega
        have hxo := (allT (ls.take k)).h.len
        obtain ⟨x, hx⟩ : ∃ x, allT (ls.take k) = x := ⟨_, rfl⟩
        rw [hx] at HP R1 hxo
        have n1 : ¬ (ls.length : Int) = 1 := by omega
        clear ih hv r1 r2 c3 pl pr p1 p2 hat hx hl1 hl2 hk
        obtain ⟨N, hN⟩ : ∃ N, ls.length = N := ⟨_, rfl⟩
        simp only [hN] at C1 C3 R1 hNI hkN n1 hc ⊢
        clear hs hp h2 h1 hf hl hi hpl hik hlk
        go_enter Try.func33, Try.ntmps33
        go_wp2_with (go_at_call 47; refine (C3.out _).mono ?_; rintro e w' ⟨rfl, δ, rfl⟩)
        refine wp_region_flowX [12,13] (by kernel_rfl) ?_
        intro δf
        apply wpFlowX_quiets [0,1,2,3,4,5,7,8,9] (by decide +kernel) (by decide +kernel) (by kernel_rfl) (by intro _ _ _ d _ h; cases d <;> exact h) _
        · intro A hA δ'
          simp only [pickOps_cons, pickOps_nil, pick1_zero, pick1_succ]
          repeat (go_big_quiet_step ((fail)))
          exact wpQuiet_nil hA.out.symm
        refine wpFlowX_one 6 (by decide +kernel) (by kernel_rfl) (by decide +kernel) (by decide +kernel) ?_
        simp only [pickOps_cons, pickOps_nil, pick1_zero, pick1_succ]
        intro δf
        go_wp2_with ((go_at_call 33; refine (C1.out _ (by repeat (first | with_reducible exact Grew.refl _ | with_reducible apply Grew.alloc | with_reducible apply Grew.grow | with_reducible apply Grew.drew | with_reducible apply Grew.drewN))).mono ?_; rintro e W1 ⟨v1, rfl, ho, hg⟩))
        refine ⟨(by first | assumption | (simp only [grow_grow, Array.append_assoc]; assumption) | exact Grew.refl _ | (simp only [grow_grow, Array.append_assoc]; exact (by repeat (first | with_reducible exact Grew.refl _ | with_reducible apply Grew.alloc | with_reducible apply Grew.grow | with_reducible apply Grew.drew | with_reducible apply Grew.drewN))) | exact (by repeat (first | with_reducible exact Grew.refl _ | with_reducible apply Grew.alloc | with_reducible apply Grew.grow | with_reducible apply Grew.drew | with_reducible apply Grew.drewN))), ?_⟩
        have gw1 : Grew w W1 := Grew.trans ⟨_, rfl⟩ hg
        have ho1 := ho.base (Grew.size (a := w) ⟨_, rfl⟩)
        have HO1 := Lib.hid ho1
        have G1 := Lib.hid gw1
        have zB : w.heap.size ≤ W1.heap.size := gw1.size
        clear ho hg gw1 ho1
        apply wpFlowX_quiets [10] (by decide +kernel) (by decide +kernel) (by kernel_rfl) (by intro _ _ _ d _ h; cases d <;> exact h) _
        · intro A hA δ'
          simp only [pickOps_cons, pickOps_nil, pick1_zero, pick1_succ]
          repeat (go_big_quiet_step ((go_at_call 28; exact Calls.pure_of_g (R1.out _ (G1.out.trans (by repeat (first | with_reducible exact Grew.refl _ | with_reducible apply Grew.alloc | with_reducible apply Grew.grow | with_reducible apply Grew.drew | with_reducible apply Grew.drewN)))))))
          exact wpQuiet_nil hA.out.symm
        refine wpFlowX_one 11 (by decide +kernel) (by kernel_rfl) (by decide +kernel) (by decide +kernel) ?_
        simp only [pickOps_cons, pickOps_nil, pick1_zero, pick1_succ]
        intro δf
        go_wp2_with (fail)
        refine ⟨(by first | assumption | (simp only [grow_grow, Array.append_assoc]; assumption) | exact Grew.refl _ | (simp only [grow_grow, Array.append_assoc]; exact (by repeat (first | with_reducible exact Grew.refl _ | with_reducible apply Grew.alloc | with_reducible apply Grew.grow | with_reducible apply Grew.drew | with_reducible apply Grew.drewN))) | exact (by repeat (first | with_reducible exact Grew.refl _ | with_reducible apply Grew.alloc | with_reducible apply Grew.grow | with_reducible apply Grew.drew | with_reducible apply Grew.drewN))), ?_⟩
        refine wpFlowX_esc 12 (by decide +kernel) (by kernel_rfl) (by decide +kernel) (by decide +kernel) ?_
        simp only [pickOps_cons, pickOps_nil, pick1_zero, pick1_succ]
        intro δf
        refine wpList_abs ?_
        intro X hX
        have gX : Grew W1 X := by rw [hX]; exact (by repeat (first | with_reducible exact Grew.refl _ | with_reducible apply Grew.alloc | with_reducible apply Grew.grow | with_reducible apply Grew.drew | with_reducible apply Grew.drewN))
        refine wpList_appendE Tot.cs_len (by decide) rfl _ _ _ rfl _ ii _ 72 under_ts hif hz hsz hby tot0_cells Tot.cs_one w X w.heap.size _ _ rfl rfl (pathT (ls.drop k) j) [x] (G1.out.trans gX) (Nat.le_refl _) (Nat.le_trans zB gX.size) (by exact HO1.out.grew gX) (by rw [hX]; exact (showsE_one_g Tot.cs_len _ _ x _ _ (by omega)).grew ⟨_, rfl⟩) (by simp only [maxLen, List.length_cons, List.length_nil]; omega) (by simp only [List.length_cons, List.length_nil]; omega) (by simp) ?_
        intro v2 W2 ho2 hg2 _
        rw [← HP.out] at ho2
        have HG2 := Lib.hid hg2
        have HO2 := Lib.hid ho2
        clear ho2 hg2 hX gX
        refine wpList_nil_then ?_
        refine wpAny_one 13 (by decide +kernel) (by kernel_rfl) (by decide +kernel) ?_
        simp only [pickOps_cons, pickOps_nil, pick1_zero, pick1_succ]
        go_wp2_with (fail)
        refine wpAny_end (by decide +kernel) (by kernel_rfl) ?_
        go_wp2
        go_ret
        exact ⟨_, rfl, HO2.out, HG2.out⟩
set_option maxRecDepth 100000 in
set_option maxHeartbeats 6400000 in
theorem rPathT_w (ls : List Tot) (i : Int) (v : Value) (w : World) (hv : ShowsT w v ls) :
    Calls Try.prog 14 #[v, .int .i64 i] w fun e w' => ∃ v', e = .returned (.tuple #[v', .bool (tpathOk ls i)]) ∧ OwnT w' w.heap.size 29 v' (tpathOf ls i) ∧ Grew w w' := by
  obtain ⟨p, c, rfl⟩ := showsT_form hv
  by_cases h1 : 64 < ls.length
  · have hc := tpathOk_no (ls := ls) (i := i) (by omega)
    have h1' : (64 : Int) < (ls.length : Int) := by omega
    rw [hc.1, hc.2]
    clear hv hc
    go_enter Try.func14, Try.ntmps14
    go_wp2
    go_ret2
    exact ⟨_, rfl, OwnE.nil _ _ _, (by repeat (first | with_reducible exact Grew.refl _ | with_reducible apply Grew.alloc | with_reducible apply Grew.grow | with_reducible apply Grew.drew | with_reducible apply Grew.drewN))⟩
  by_cases h2 : i < 0
  · have hc := tpathOk_no (ls := ls) (i := i) (by omega)
    have h1' : (ls.length : Int) ≤ 64 := by omega
    rw [hc.1, hc.2]
    clear hv hc
    go_enter Try.func14, Try.ntmps14
    go_wp2
    go_ret2
    exact ⟨_, rfl, OwnE.nil _ _ _, (by repeat (first | with_reducible exact Grew.refl _ | with_reducible apply Grew.alloc | with_reducible apply Grew.grow | with_reducible apply Grew.drew | with_reducible apply Grew.drewN))⟩
  by_cases h3 : (ls.length : Int) ≤ i
  · have hc := tpathOk_no (ls := ls) (i := i) (by omega)
    have h1' : (ls.length : Int) ≤ 64 := by omega
    have h2' : 0 ≤ i := by omega
    rw [hc.1, hc.2]
    clear hv hc
    go_enter Try.func14, Try.ntmps14
    go_wp2
    go_ret2
    exact ⟨_, rfl, OwnE.nil _ _ _, (by repeat (first | with_reducible exact Grew.refl _ | with_reducible apply Grew.alloc | with_reducible apply Grew.grow | with_reducible apply Grew.drew | with_reducible apply Grew.drewN))⟩
  obtain ⟨j, rfl⟩ : ∃ j : Nat, i = (j : Int) := ⟨i.toNat, by omega⟩
  have hok : tpathOk ls j = true := decide_eq_true ⟨by omega, by omega, by omega⟩
  have hof : tpathOf ls j = pathT ls j := by unfold tpathOf; rw [if_pos hok]; rfl
  rw [hok, hof]
  have h1' : (ls.length : Int) ≤ 64 := by omega
  have h3' : (j : Int) < (ls.length : Int) := by omega
  have h4 : ¬ (ls.length : Int) ≤ (j : Int) := by omega
  have HV := Lib.hid hv
  have HJ := Lib.hid (And.intro h1 h3)
  clear hv hok hof h1 h2 h3
  have C1 := Lib.hid (fun W (g : Grew w W) => rpathT_w ls.length ls j _ W (Nat.le_refl _) (by have := HJ.out; omega) (by have := HJ.out; omega) (by omega) (HV.out.grew g))
  go_enter Try.func14, Try.ntmps14
  go_wp2_with (go_at_call 33; refine (C1.out _ (by repeat (first | with_reducible exact Grew.refl _ | with_reducible apply Grew.alloc | with_reducible apply Grew.grow | with_reducible apply Grew.drew | with_reducible apply Grew.drewN))).mono ?_; rintro e w' ⟨v1, rfl, ho, hg⟩; have HO := Lib.hid ho; have HG := Lib.hid hg; clear ho hg)
  go_ret2
  exact ⟨_, rfl, HO.out, HG.out⟩
end Go.Proofs.Ytnhcamklammcdaa
/- The document's Root of peaks. -/
namespace Go.Proofs.Ytnhcamklammcdaa
set_option linter.unusedVariables false
set_option linter.unusedSimpArgs false
open Go.RowKit
set_option maxRecDepth 100000
/-- The total of peaks. -/
noncomputable def peakL : List Tot → Tot
  | [] => tnone
  | [x] => x
  | x :: y :: r => Tot.join x (peakL (y :: r))
theorem peakL_drop (ls : List Tot) (k : Nat) (x : Tot) (hx : ls[k]? = some x) (h : k + 1 < ls.length) : peakL (ls.drop k) = Tot.join x (peakL (ls.drop (k + 1))) := by
  have e1 : ls.drop k = x :: ls.drop (k + 1) := by
    rw [List.drop_eq_getElem_cons (by omega)]
    rw [List.getElem?_eq_getElem (by omega), Option.some.injEq] at hx
    rw [hx]
  obtain ⟨y, r, e2⟩ : ∃ y r, ls.drop (k + 1) = y :: r := ⟨_, _, List.drop_eq_getElem_cons h⟩
  rw [e1, e2]; rfl
theorem peakL_last (ls : List Tot) (k : Nat) (x : Tot) (hx : ls[k]? = some x) (h : k + 1 = ls.length) : peakL (ls.drop k) = x := by
  have e1 : ls.drop k = x :: ls.drop (k + 1) := by
    rw [List.drop_eq_getElem_cons (by omega)]
    rw [List.getElem?_eq_getElem (by omega), Option.some.injEq] at hx
    rw [hx]
  rw [e1, h, List.drop_length]; rfl
/-- What lies in the two blocks of the call's own. -/
def Two (w wr : World) (x : Tot) : Prop := wr.rowAt (w.heap.size + 1) = ta x.h.l x.w.n x.n ∧ wr.rowFree (w.heap.size + 1) = true ∧ wr.rowAt w.heap.size = ta id0 0 0 ∧ wr.rowFree w.heap.size = true ∧ w.heap.size + 1 < wr.heap.size ∧ Grew w wr
theorem Two.step {w wr : World} {z : Tot} {δ : Junk} (f3 : wr.rowFree (w.heap.size + 1) = true) (r2 : wr.rowAt w.heap.size = ta id0 0 0) (f2 : wr.rowFree w.heap.size = true) (lt3 : w.heap.size + 1 < wr.heap.size) (g : Grew w wr) :
    Two w ((wr.setRow (w.heap.size + 1) (ta z.h.l z.w.n z.n)).grow δ) z := by
  have e : (wr.setRow (w.heap.size + 1) (ta z.h.l z.w.n z.n)).heap[w.heap.size]? = wr.heap[w.heap.size]? := World.heap_setRow_ne _ _ _ _ (by omega)
  refine ⟨?_, ?_, ?_, ?_, by rw [size_grow, setRow_size]; omega, (Grew.setRow_new g _ _ (by omega)).grow δ⟩
  · rw [rowAt_grow_old _ _ _ (by rw [setRow_size]; exact lt3), rowAt_setRow_free _ _ _ f3]
  · rw [rowFree_grow_old _ _ _ (by rw [setRow_size]; exact lt3), rowFree_setRow_free _ _ _ f3]
  · rw [rowAt_grow_old _ _ _ (by rw [setRow_size]; omega), rowAt_of_heap e]; exact r2
  · rw [rowFree_grow_old _ _ _ (by rw [setRow_size]; omega), rowFree_of_heap e]; exact f2
set_option maxHeartbeats 6400000 in
theorem rpeak_w (ls : List Tot) (v : Value) (w : World) (hl : ls.length ≤ 1000000) (hv : ShowsT w v ls) :
    Calls Try.prog 19 #[v] w fun e w' => e = .returned (peakL ls).v ∧ Grew w w' := by
  obtain ⟨p, c, rfl⟩ := showsT_form hv
  have hz := id0_len
  rcases Nat.eq_zero_or_pos ls.length with h0 | h0
  · obtain rfl : ls = [] := List.length_eq_zero_iff.1 h0
    have hc := fun W => rall_w 0 [] (.slice none 0 0) W (Nat.le_refl _) (by simp) (.inr ⟨_, _, rfl, rfl⟩)
    rw [allT_nil] at hc
    unfold Tot.v at hc
    have hx := tnone.h.len
    have HC := Lib.hid hc
    clear hv hc
    simp only [List.length_nil]
    go_enter Try.func19, Try.ntmps19
    go_wp2_with (go_at_call 28; refine (HC.out _).mono ?_; rintro e w' ⟨rfl, δ, rfl⟩)
    exact bodyPost_ret (v := tnone.v) (tot_result rfl _ rfl (h := tnone.h.l) (x := tnone.w.n) (n := tnone.n) (by simp [go_sem]) hx) rfl ⟨rfl, (by repeat (first | with_reducible exact Grew.refl _ | with_reducible apply Grew.alloc | with_reducible apply Grew.grow | with_reducible apply Grew.drew | with_reducible apply Grew.drewN))⟩
  · obtain ⟨b, o, rfl, -, hc, hb, hat⟩ := showsT_some hv h0
    have hat2 : ∀ k x, ls[k]? = some x → ∀ W, Grew w W → (rowLoad 29 (.pointer (some ⟨b, o + k * 37, none⟩))).run Try.prog W = .ok (.value x.v) W := fun k x hx W g => load_totm (rangeAt_grew (hat k x hx) g)
    have HA := Lib.hid hat2
    obtain ⟨N, hN⟩ : ∃ N, ls.length = N := ⟨_, rfl⟩
    have HN := Lib.hid hN
    rw [hN] at hl h0 ⊢
    obtain ⟨m, hm⟩ : ∃ m, N = m + 1 := ⟨N - 1, by omega⟩
    obtain ⟨x, hx⟩ : ∃ x, ls[m]? = some x := ⟨_, List.getElem?_eq_getElem (by omega)⟩
    have hld := hat2 m x hx (w.alloc (.cells (ta id0 0 0) 29)) (by repeat (first | with_reducible exact Grew.refl _ | with_reducible apply Grew.alloc | with_reducible apply Grew.grow | with_reducible apply Grew.drew | with_reducible apply Grew.drewN))
    unfold Tot.v at hld
    have hxl := x.h.len
    have e1 : (N : Int) - 1 = (m : Int) := by omega
    have e2 : (N : Int) - 2 = (m : Int) - 1 := by omega
    have e3 : (m : Int) < (N : Int) := by omega
    have hlast := peakL_last ls m x hx (by omega)
    have HL := Lib.hid hlast
    have hNI : (N : Int) ≤ 1000000 := by omega
    have n0 : ¬ N = 0 := by omega
    have HM := Lib.hid hm
    have hbw := hb
    clear hv hat hat2 hx hlast hc hN hm hl h0
    go_enter Try.func19, Try.ntmps19
    go_wp2
    have two0 : Two w ((w.alloc (.cells (ta id0 0 0) 29)).alloc (.cells (ta x.h.l x.w.n x.n) 29)) x := ⟨by simp [go_sem], by simp [go_sem], by simp [go_sem], by simp [go_sem], by simp, (by repeat (first | with_reducible exact Grew.refl _ | with_reducible apply Grew.alloc | with_reducible apply Grew.grow | with_reducible apply Grew.drew | with_reducible apply Grew.drewN))⟩
    obtain ⟨A, hA⟩ : ∃ A, (w.alloc (.cells (ta id0 0 0) 29)).alloc (.cells (ta x.h.l x.w.n x.n) 29) = A := ⟨_, rfl⟩
    rw [hA] at two0 ⊢
    have TW := Lib.hid two0
    clear two0 hA hld e1 e3
    go_loopw [4] (fun i wr => ∃ k : Nat, k < N ∧ i = .int .i64 ((k : Int) - 1) ∧ Two w wr (peakL (ls.drop k))) (fun i _ => (intOf i + 1).toNat)
    case atStart => exact ⟨m, by have := HM.out; omega, rfl, by rw [HL.out]; exact TW.out⟩
    case round =>
      obtain ⟨k, hk, rfl, r3, f3, r2, f2, lt3, hg⟩ := hrel
      have HG := Lib.hid hg
      obtain ⟨y, hy⟩ : ∃ y, peakL (ls.drop k) = y := ⟨_, rfl⟩
      rw [hy] at r3
      have hyl := y.h.len
      clear hg TW HL hxl
      cases k with
      | succ m2 =>
        rw [show (((m2 + 1 : Nat) : Int) - 1) = (m2 : Int) by omega]
        obtain ⟨z, hz2⟩ : ∃ z, ls[m2]? = some z := ⟨_, List.getElem?_eq_getElem (by have := HN.out; omega)⟩
        have hd := peakL_drop ls m2 z hz2 (by have := HN.out; omega)
        rw [hy] at hd
        have HD := Lib.hid hd
        have hld := fun δ => HA.out m2 z hz2 (wr.grow δ) (HG.out.grow δ)
        unfold Tot.v at hld
        have jw := fun W => rjoin_w z y W
        unfold Tot.v at jw
        have JW := Lib.hid jw
        have hj := (Tot.join z y).h.len
        have hm0 : (0 : Int) ≤ (m2 : Int) := by omega
        have hmN : (m2 : Int) < (N : Int) := by omega
        have lt2 : w.heap.size < wr.heap.size := by omega
        have HK := Lib.hid hk
        clear hy hd jw hz2 hk
        go_wp2
        refine wp_region_flowX [6] (by kernel_rfl) ?_
        intro δf
        apply wpFlowX_quiets [0,1,2,3,4] (by decide +kernel) (by decide +kernel) (by kernel_rfl) (by intro _ _ _ d _ h; cases d <;> exact h) _
        · intro A hA δ'
          simp only [pickOps_cons, pickOps_nil, pick1_zero, pick1_succ]
          repeat (go_big_quiet_step ((fail)))
          exact wpQuiet_nil hA.out.symm
        apply wpFlowX_quiets [5] (by decide +kernel) (by decide +kernel) (by kernel_rfl) (by intro _ _ _ d _ h; cases d <;> exact h) _
        · intro A hA δ'
          simp only [pickOps_cons, pickOps_nil, pick1_zero, pick1_succ]
          repeat (go_big_quiet_step ((go_at_call 21; (with_reducible first | exact Calls.pure_of_g3 (JW.out _) | exact Calls.pure_of_g4 (JW.out _) | exact Calls.pure_of_g (JW.out _) | exact Calls.pure_of_g5 (JW.out _)))))
          exact wpQuiet_nil hA.out.symm
        refine wpFlowX_esc 6 (by decide +kernel) (by kernel_rfl) (by decide +kernel) (by decide +kernel) ?_
        simp only [pickOps_cons, pickOps_nil, pick1_zero, pick1_succ]
        intro δf
        go_wp2
        refine wpAny_end (by decide +kernel) (by kernel_rfl) ?_
        go_wp2
        refine ⟨⟨m2, by have := HK.out; omega, rfl, ?_⟩, by simp only [intOf]; omega⟩
        rw [HD.out]
        exact Two.step f3 r2 f2 lt3 HG.out
      | zero =>
        have hge : ¬ ((0 : Int) ≤ ((0 : Nat) : Int) - 1) := by omega
        rw [List.drop_zero] at hy
        have HY := Lib.hid hy
        have lt2 : w.heap.size < wr.heap.size := by omega
        clear hy hk
        go_wp2
        exact bodyPost_ret (v := y.v) (tot_result rfl _ rfl (h := y.h.l) (x := y.w.n) (n := y.n) (by simp [go_sem, f2, lt2]) hyl) rfl ⟨by rw [HY.out], Grew.setRow_new HG.out _ _ (Nat.le_refl _)⟩
end Go.Proofs.Ytnhcamklammcdaa
/- Peaks: what appending makes of them. No program in sight. -/
namespace Go.Proofs.Ytnhcamklammcdaa
set_option linter.unusedVariables false
set_option linter.unusedSimpArgs false
set_option maxRecDepth 100000
/-- The last first: two of one number become one. -/
noncomputable def mergeF : Nat → List Tot → List Tot
  | 0, l => l
  | f + 1, x :: y :: r => if x.n = y.n then mergeF f (Tot.join y x :: r) else x :: y :: r
  | _ + 1, l => l
noncomputable def mergeR (l : List Tot) : List Tot := mergeF l.length l
theorem mergeF_more : ∀ (f g : Nat) (l : List Tot), l.length ≤ f → l.length ≤ g → mergeF f l = mergeF g l
  | 0, 0, _, _, _ => rfl
  | 0, g + 1, l, h, _ => by
    obtain rfl : l = [] := List.length_eq_zero_iff.1 (by omega)
    rfl
  | f + 1, 0, l, _, h => by
    obtain rfl : l = [] := List.length_eq_zero_iff.1 (by omega)
    rfl
  | f + 1, g + 1, [], _, _ => rfl
  | f + 1, g + 1, [x], _, _ => rfl
  | f + 1, g + 1, x :: y :: r, h1, h2 => by
    unfold mergeF
    by_cases h : x.n = y.n
    · rw [if_pos h, if_pos h]
      exact mergeF_more f g _ (by simp only [List.length_cons] at *; omega) (by simp only [List.length_cons] at *; omega)
    · rw [if_neg h, if_neg h]
theorem mergeR_two (x y : Tot) (r : List Tot) (h : x.n = y.n) : mergeR (x :: y :: r) = mergeR (Tot.join y x :: r) := by
  unfold mergeR
  rw [show (x :: y :: r).length = r.length + 1 + 1 from rfl, mergeF, if_pos h]
  exact mergeF_more _ _ _ (by simp) (Nat.le_refl _)
theorem mergeR_stop (x y : Tot) (r : List Tot) (h : ¬ x.n = y.n) : mergeR (x :: y :: r) = x :: y :: r := by
  unfold mergeR
  rw [show (x :: y :: r).length = r.length + 1 + 1 from rfl, mergeF, if_neg h]
theorem mergeR_one (l : List Tot) (h : l.length ≤ 1) : mergeR l = l := by
  cases l with
  | nil => rfl
  | cons x r =>
    cases r with
    | nil => rfl
    | cons y r => simp at h
/-- A leaf is appended. -/
noncomputable def appT (p : List Tot) (x : Tot) : List Tot := (mergeR (p ++ [x]).reverse).reverse
/-- One step, as the code takes it. -/
theorem app_step (l : List Tot) (x y : Tot) (h2 : 2 ≤ l.length) (hx : l[l.length - 1]? = some x) (hy : l[l.length - 2]? = some y) :
    l.reverse = x :: y :: (l.take (l.length - 2)).reverse ∧ (l.take (l.length - 2) ++ [Tot.join y x]).reverse = Tot.join y x :: (l.take (l.length - 2)).reverse := by
  refine ⟨?_, by simp⟩
  obtain ⟨n, hn⟩ : ∃ n, l.length = n + 2 := ⟨l.length - 2, by omega⟩
  rw [hn] at hx hy ⊢
  simp only [Nat.add_sub_cancel] at hy ⊢
  have e : l = l.take n ++ [y, x] := by
    conv => lhs; rw [← List.take_append_drop n l]
    congr 1
    have h1 : n < l.length := by omega
    have h3 : n + 1 < l.length := by omega
    rw [List.drop_eq_getElem_cons h1, List.drop_eq_getElem_cons h3, List.drop_of_length_le (by omega)]
    rw [List.getElem?_eq_getElem h1, Option.some.injEq] at hy
    rw [show n + 2 - 1 = n + 1 by omega, List.getElem?_eq_getElem h3, Option.some.injEq] at hx
    rw [hx, hy]
  conv => lhs; rw [e]
  simp
theorem app_two (l : List Tot) (x y : Tot) (h2 : 2 ≤ l.length) (hx : l[l.length - 1]? = some x) (hy : l[l.length - 2]? = some y) (h : x.n = y.n) :
    mergeR (l.take (l.length - 2) ++ [Tot.join y x]).reverse = mergeR l.reverse := by
  obtain ⟨e1, e2⟩ := app_step l x y h2 hx hy
  rw [e1, e2, mergeR_two x y _ h]
theorem app_stop (l : List Tot) (x y : Tot) (h2 : 2 ≤ l.length) (hx : l[l.length - 1]? = some x) (hy : l[l.length - 2]? = some y) (h : ¬ x.n = y.n) : mergeR l.reverse = l.reverse := by
  obtain ⟨e1, _⟩ := app_step l x y h2 hx hy
  rw [e1, mergeR_stop x y _ h]
end Go.Proofs.Ytnhcamklammcdaa
/- Rows of elements of many cells: parts. -/
namespace Go.Proofs.Ytnhcamklammcdaa
set_option linter.unusedVariables false
set_option linter.unusedSimpArgs false
open Go.RowKit
theorem flat_take {α : Type} {k : Nat} {f : α → List Value} (hf : ∀ x, (f x).length = k) (l : List α) (n : Nat) : (l.flatMap f).take (n * k) = (l.take n).flatMap f := by
  rcases Nat.lt_or_ge l.length n with h | h
  · rw [List.take_of_length_le (by rw [flat_len hf]; exact Nat.mul_le_mul_right _ (by omega)), List.take_of_length_le (by omega)]
  · have ht := flat_len hf (l.take n)
    rw [List.length_take, Nat.min_eq_left h] at ht
    conv => lhs; rw [← List.take_append_drop n l, List.flatMap_append]
    exact List.take_left' ht
theorem flat_drop {α : Type} {k : Nat} {f : α → List Value} (hf : ∀ x, (f x).length = k) (l : List α) (n : Nat) (h : n ≤ l.length) : (l.flatMap f).drop (n * k) = (l.drop n).flatMap f := by
  have ht := flat_len hf (l.take n)
  rw [List.length_take, Nat.min_eq_left h] at ht
  conv => lhs; rw [← List.take_append_drop n l, List.flatMap_append]
  exact List.drop_left' ht
theorem flat_set {α : Type} {k : Nat} {f : α → List Value} (hf : ∀ x, (f x).length = k) (l : List α) (j : Nat) (x : α) (h : j < l.length) : (l.set j x).flatMap f = (l.flatMap f).take (j * k) ++ f x ++ (l.flatMap f).drop (j * k + k) := by
  have e : j * k + k = (j + 1) * k := by rw [Nat.add_mul, Nat.one_mul]
  rw [e, flat_take hf, flat_drop hf l (j + 1) (by omega), List.set_eq_take_append_cons_drop, if_pos h, List.flatMap_append, List.flatMap_cons, List.append_assoc]
/-- The first of a row of the call's own. -/
theorem ownE_take {α : Type} {k : Nat} {f : α → List Value} (hf : ∀ x, (f x).length = k) {w : World} {base : Nat} {e : TypeId} {g n cap : Nat} {ls : List α} (h : OwnE k f w base e (.slice (some ⟨g, 0, none⟩) n cap) ls) (m : Nat) (hm : m ≤ ls.length) : OwnE k f w base e (.slice (some ⟨g, 0, none⟩) m cap) (ls.take m) := by
  obtain ⟨h1, h2⟩ := h
  have hlen : (ls.take m).length = m := by rw [List.length_take]; omega
  rcases h2 with ⟨he, _⟩ | ⟨g', cap', cur, he, hb, hg, hn, hm2, hs, ht⟩
  · simp at he
  · simp only [Value.slice.injEq, Option.some.injEq, Addr.mk.injEq, true_and, and_true] at he
    obtain ⟨rfl, rfl, rfl⟩ := he
    refine ⟨flat_len hf _, .inr ⟨g, cap, cur, by rw [hlen], hb, hg, by omega, hm2, hs, ?_⟩⟩
    have h3 := congrArg (List.take (m * k)) ht
    rw [List.take_take, Nat.min_eq_left (Nat.mul_le_mul_right _ hm), flat_take hf] at h3
    rw [hlen]
    exact h3
end Go.Proofs.Ytnhcamklammcdaa
/- mmr.Append. -/
namespace Go
set_option linter.unusedVariables false
set_option linter.unusedSimpArgs false
/-- A scope whose run jumps back to one label: what is behind the label is walked once. -/
theorem wp_scope_once {P : Program} {a : Act} {w : World} {Q : Exit → Act → World → Prop} {c R : Code} (l : Nat) (J : Act → World → Prop) (μ : Act → World → Nat) (hf : findLabel c l = some (Code.skip.seq R))
    (pass : ∀ a w, J a w → R.wp P (Exit.jump l (fun a' w' => J a' w' ∧ μ a' w' < μ a w) Q) a w)
    (first : RowKit.Hid (∀ a w, J a w → R.wp P (Exit.jump l J Q) a w) → c.wp P (Exit.jump l J Q) a w) : (Code.scope c).wp P Q a w :=
  wp_scope_jumps l J μ hf (first (fun a w h => Code.wp_mono (fun e a' w' q => by
    cases e <;> first | exact q | exact ⟨q.1, q.2.1⟩) (pass a w h))) (fun a w h => wp_seq (wp_skip (pass a w h)))
end Go
namespace Go.Proofs.Ytnhcamklammcdaa
open Go.RowKit
set_option maxRecDepth 100000
/-- What holds at the label. -/
def appJ (p : List Tot) (leaf : Tot) (w : World) (a : Act) (wr : World) : Prop := ∃ (l : List Tot) (vv p0 p1 u2 u3 u4 u6 u7 u8 u9 u10 u11 u12 u13 u14 u15 u16 u17 u18 u19 u20 u21 u22 u23 u24 u25 u26 u27 u28 u29 u30 u31 u32 u33 u34 u35 u36 u37 u38 u39 u40 u41 u42 u43 u44 u45 u46 u47 u48 : Value), a = { tmps := #[p0, p1, u2, u3, u4, vv, u6, u7, u8, u9, u10, u11, u12, u13, u14, u15, u16, u17, u18, u19, u20, u21, u22, u23, u24, u25, u26, u27, u28, u29, u30, u31, u32, u33, u34, u35, u36, u37, u38, u39, u40, u41, u42, u43, u44, u45, u46, u47, u48], defers := [] } ∧ 1 ≤ l.length ∧ l.length ≤ p.length + 1 ∧ mergeR l.reverse = mergeR (p ++ [leaf]).reverse ∧ OwnT wr w.heap.size 29 vv l ∧ Grew w wr
def appM (a : Act) (_ : World) : Nat := match (a.tmps.getD 5 undef) with | .slice _ n _ => n | _ => 0
theorem appM_at (x0 x1 x2 x3 x4 : Value) (q : Option Addr) (n c : Nat) (l : List Value) (d : List Deferred) (w : World) : appM { tmps := ⟨x0 :: x1 :: x2 :: x3 :: x4 :: .slice q n c :: l⟩, defers := d } w = n := rfl
theorem ownT_len {w : World} {b : Nat} {t : TypeId} {v : Value} {l : List Tot} (h : OwnT w b t v l) : ∃ q c, v = .slice q l.length c := by
  obtain ⟨rfl, rfl⟩ | ⟨g, cap, rfl, _⟩ := h.form
  · exact ⟨_, _, rfl⟩
  · exact ⟨_, _, rfl⟩
set_option maxHeartbeats 3200000 in
theorem append_w (p : List Tot) (leaf : Tot) (v : Value) (w : World) (hv : ShowsT w v p) (hl : p.length ≤ 1000) :
    Calls Try.prog 11 #[v, .agg (ta leaf.h.l leaf.w.n leaf.n)] w fun e w' => ∃ v', e = .returned v' ∧ OwnT w' w.heap.size 29 v' (appT p leaf) ∧ Grew w w' := by
  obtain ⟨q, c, rfl⟩ := showsT_form hv
  obtain ⟨ii, hif, hz, hsz, hby⟩ := info_t
  have HV := Lib.hid hv
  have hlf := leaf.h.len
  clear hv
  go_enter Try.func11, Try.ntmps11
  go_wp2
  first
    | refine wp_scope_once 0 (appJ p leaf w) appM rfl ?pass ?first
    | refine wp_scope_once 1 (appJ p leaf w) appM rfl ?pass ?first
    | refine wp_scope_once 2 (appJ p leaf w) appM rfl ?pass ?first
  case first =>
    intro HR
    go_wp2
    refine wp_region_flowX [4,5] (by kernel_rfl) ?_
    intro δf
    refine flowX_abs ?_
    intro Y hY
    have ra : Y.rowAt w.heap.size = ta leaf.h.l leaf.w.n leaf.n := by rw [hY]; simp [go_sem]
    have g0 : Grew w Y := by rw [hY]; exact (by repeat (first | with_reducible exact Grew.refl _ | with_reducible apply Grew.alloc | with_reducible apply Grew.grow | with_reducible apply Grew.drew | with_reducible apply Grew.drewN))
    have z0 : Y.heap.size = w.heap.size + 1 + δf.n := by rw [hY]; simp
    have lt1 : w.heap.size < Y.heap.size := by omega
    have G0 := Lib.hid g0
    clear hY g0 z0
    apply wpFlowX_quiets [0,2] (by decide +kernel) (by decide +kernel) (by kernel_rfl) (by intro _ _ _ d _ h; cases d <;> exact h) _
    · intro A hA δ'
      simp only [pickOps_cons, pickOps_nil, pick1_zero, pick1_succ]
      repeat (go_big_quiet_step ((fail)))
      exact wpQuiet_nil hA.out.symm
    clear ra lt1
    refine wpFlowX_two 1 3 (by decide +kernel) (by kernel_rfl) (by decide +kernel) (by decide +kernel) ?_ ?_
    unfold wpFlowXS
    simp only [pickOps_cons, pickOps_nil, pick1_zero, pick1_succ]
    intro δf
    go_wp2_with (go_at_call 30; refine (cloneT_w p _ _ ((HV.out.grew G0.out).grew (by repeat (first | with_reducible exact Grew.refl _ | with_reducible apply Grew.alloc | with_reducible apply Grew.grow | with_reducible apply Grew.drew | with_reducible apply Grew.drewN))) (by omega)).mono ?_; rintro e W1 ⟨v1, rfl, ho, hg⟩)
    refine ⟨(by first | assumption | (simp only [grow_grow, Array.append_assoc]; assumption) | exact Grew.refl _ | (simp only [grow_grow, Array.append_assoc]; exact (by repeat (first | with_reducible exact Grew.refl _ | with_reducible apply Grew.alloc | with_reducible apply Grew.grow | with_reducible apply Grew.drew | with_reducible apply Grew.drewN))) | exact (by repeat (first | with_reducible exact Grew.refl _ | with_reducible apply Grew.alloc | with_reducible apply Grew.grow | with_reducible apply Grew.drew | with_reducible apply Grew.drewN))), ?_⟩
    have zY : Y.heap.size ≤ (Y.grow δf).heap.size := by simp
    have O1 := Lib.hid (ho.base zY)
    have G1 := Lib.hid ((show Grew Y _ from (by repeat (first | with_reducible exact Grew.refl _ | with_reducible apply Grew.alloc | with_reducible apply Grew.grow | with_reducible apply Grew.drew | with_reducible apply Grew.drewN))).trans hg)
    clear ho hg zY
    refine wpFlowX_one 3 (by decide +kernel) (by kernel_rfl) (by decide +kernel) (by decide +kernel) ?_
    simp only [pickOps_cons, pickOps_nil, pick1_zero, pick1_succ]
    intro δf
    go_wp2_with (fail)
    refine ⟨(by first | assumption | (simp only [grow_grow, Array.append_assoc]; assumption) | exact Grew.refl _ | (simp only [grow_grow, Array.append_assoc]; exact (by repeat (first | with_reducible exact Grew.refl _ | with_reducible apply Grew.alloc | with_reducible apply Grew.grow | with_reducible apply Grew.drew | with_reducible apply Grew.drewN))) | exact (by repeat (first | with_reducible exact Grew.refl _ | with_reducible apply Grew.alloc | with_reducible apply Grew.grow | with_reducible apply Grew.drew | with_reducible apply Grew.drewN))), ?_⟩
    refine flowX_abs ?_
    intro W hW
    have gW : Grew W1 W := by rw [hW]; exact (by repeat (first | with_reducible exact Grew.refl _ | with_reducible apply Grew.alloc | with_reducible apply Grew.grow | with_reducible apply Grew.drew | with_reducible apply Grew.drewN))
    have sh : ShowsT W (.slice (some ⟨W1.heap.size + δf.n, 0, none⟩) 1 1) [leaf] := by rw [hW]; exact showsE_one_g Tot.cs_len W1 δf leaf _ _ (Nat.le_refl _)
    have GY := Lib.hid (G1.out.trans gW)
    have OW := Lib.hid (O1.out.grew gW)
    have SH := Lib.hid sh
    obtain ⟨b3, hb3⟩ : ∃ b3, W1.heap.size + δf.n = b3 := ⟨_, rfl⟩
    rw [hb3] at SH ⊢
    clear hW gW sh O1 G1 hb3
    rotate_left
    unfold wpFlowXS
    simp only [pickOps_cons, pickOps_nil, pick1_zero, pick1_succ]
    intro δf
    go_wp2_with (fail)
    refine ⟨(by first | assumption | (simp only [grow_grow, Array.append_assoc]; assumption) | exact Grew.refl _ | (simp only [grow_grow, Array.append_assoc]; exact (by repeat (first | with_reducible exact Grew.refl _ | with_reducible apply Grew.alloc | with_reducible apply Grew.grow | with_reducible apply Grew.drew | with_reducible apply Grew.drewN))) | exact (by repeat (first | with_reducible exact Grew.refl _ | with_reducible apply Grew.alloc | with_reducible apply Grew.grow | with_reducible apply Grew.drew | with_reducible apply Grew.drewN))), ?_⟩
    refine flowX_abs ?_
    intro W1 hW
    have gW : Grew Y W1 := by rw [hW]; exact (by repeat (first | with_reducible exact Grew.refl _ | with_reducible apply Grew.alloc | with_reducible apply Grew.grow | with_reducible apply Grew.drew | with_reducible apply Grew.drewN))
    have sh : ShowsT W1 (.slice (some ⟨Y.heap.size + δf.n, 0, none⟩) 1 1) [leaf] := by rw [hW]; exact showsE_one_g Tot.cs_len Y δf leaf _ _ (Nat.le_refl _)
    have SH1 := Lib.hid sh
    have GW1 := Lib.hid gW
    obtain ⟨b3, hb3⟩ : ∃ b3, Y.heap.size + δf.n = b3 := ⟨_, rfl⟩
    rw [hb3] at SH1 ⊢
    clear hW gW sh hb3
    refine wpFlowX_one 1 (by decide +kernel) (by kernel_rfl) (by decide +kernel) (by decide +kernel) ?_
    simp only [pickOps_cons, pickOps_nil, pick1_zero, pick1_succ]
    intro δf
    go_wp2_with (go_at_call 30; refine (cloneT_w p _ _ (((HV.out.grew G0.out).grew GW1.out).grew (by repeat (first | with_reducible exact Grew.refl _ | with_reducible apply Grew.alloc | with_reducible apply Grew.grow | with_reducible apply Grew.drew | with_reducible apply Grew.drewN))) (by omega)).mono ?_; rintro e W ⟨v1, rfl, ho, hg⟩)
    refine ⟨(by first | assumption | (simp only [grow_grow, Array.append_assoc]; assumption) | exact Grew.refl _ | (simp only [grow_grow, Array.append_assoc]; exact (by repeat (first | with_reducible exact Grew.refl _ | with_reducible apply Grew.alloc | with_reducible apply Grew.grow | with_reducible apply Grew.drew | with_reducible apply Grew.drewN))) | exact (by repeat (first | with_reducible exact Grew.refl _ | with_reducible apply Grew.alloc | with_reducible apply Grew.grow | with_reducible apply Grew.drew | with_reducible apply Grew.drewN))), ?_⟩
    have g1 : Grew W1 W := (show Grew W1 _ from (by repeat (first | with_reducible exact Grew.refl _ | with_reducible apply Grew.alloc | with_reducible apply Grew.grow | with_reducible apply Grew.drew | with_reducible apply Grew.drewN))).trans hg
    have GY := Lib.hid (GW1.out.trans g1)
    have OW := Lib.hid (ho.base (Nat.le_trans GW1.out.size (show W1.heap.size ≤ (W1.grow δf).heap.size by simp)))
    have SH := Lib.hid (SH1.out.grew g1)
    clear ho hg g1 SH1 GW1
    all_goals
      refine wpFlowX_esc 4 (by decide +kernel) (by kernel_rfl) (by decide +kernel) (by decide +kernel) ?_
      simp only [pickOps_cons, pickOps_nil, pick1_zero, pick1_succ]
      intro δf
      refine wpList_appendE2 Tot.cs_len (by decide) rfl _ _ _ rfl _ ii _ 72 under_ts hif hz hsz hby tot0_cells Tot.cs_one w _ Y.heap.size _ _ rfl rfl p [leaf] ((G0.out.trans GY.out).grow _) G0.out.size (by have := GY.out.size; simp; omega) (by exact OW.out.grew (by repeat (first | with_reducible exact Grew.refl _ | with_reducible apply Grew.alloc | with_reducible apply Grew.grow | with_reducible apply Grew.drew | with_reducible apply Grew.drewN))) (by exact SH.out.grew (by repeat (first | with_reducible exact Grew.refl _ | with_reducible apply Grew.alloc | with_reducible apply Grew.grow | with_reducible apply Grew.drew | with_reducible apply Grew.drewN))) (by simp [maxLen]; omega) (by simp; omega) ?_
      intro v2 W2 ho2 hg2
      have HO2 := Lib.hid (ho2.base G0.out.size)
      have HG2 := Lib.hid hg2
      clear ho2 hg2 GY OW SH
      refine wpList_nil_then ?_
      refine wpAny_one 5 (by decide +kernel) (by kernel_rfl) (by decide +kernel) ?_
      simp only [pickOps_cons, pickOps_nil, pick1_zero, pick1_succ]
      go_wp2_with (fail)
      refine wpAny_end (by decide +kernel) (by kernel_rfl) ?_
      go_wp2
      go_step3
      go_step
      go_step
      refine HR.out _ _ ⟨p ++ [leaf], v2, _, _, _, _, _, _, _, _, _, _, _, _, _, _, _, _, _, _, _, _, _, _, _, _, _, _, _, _, _, _, _, _, _, _, _, _, _, _, _, _, _, _, _, _, _, _, _, _, rfl, by simp, by simp, rfl, HO2.out, HG2.out⟩
  case pass =>
    rintro a wr ⟨l, vv, p0, p1, u2, u3, u4, u6, u7, u8, u9, u10, u11, u12, u13, u14, u15, u16, u17, u18, u19, u20, u21, u22, u23, u24, u25, u26, u27, u28, u29, u30, u31, u32, u33, u34, u35, u36, u37, u38, u39, u40, u41, u42, u43, u44, u45, u46, u47, u48, rfl, h1, h2, hm, ho, hg⟩
    obtain ⟨rfl, h0⟩ | ⟨g, cap, rfl, hb, hgs, hc⟩ := ho.form
    · rw [h0] at h1; simp at h1
    have HO := Lib.hid ho
    have HG := Lib.hid hg
    have HM := Lib.hid hm
    obtain ⟨N, hN⟩ : ∃ N, l.length = N := ⟨_, rfl⟩
    have HN := Lib.hid hN
    rw [hN] at h1 h2 hc HO ⊢
    clear ho hg hm hN
    by_cases hA : N < 2
    · have a1 : decide ((N : Int) < 2) = true := decide_eq_true (by omega)
      have a2 : decide (N < 2) = true := decide_eq_true hA
      have hap : appT p leaf = l := by
        unfold appT
        rw [← HM.out, mergeR_one l.reverse (by rw [List.length_reverse, HN.out]; omega), List.reverse_reverse]
      have HAP := Lib.hid hap
      clear hap hA
      go_wp2
      first | refine wp_region_pure_lit_g (by kernel_rfl) (by kernel_rfl) ?_ | refine wp_region_pure_lit (by kernel_rfl) (by kernel_rfl) ?_
      repeat (go_big_quiet_step ((fail)))
      refine wpQuiet_nil ?_
      intro _ hw'
      obtain ⟨δ1, hw''⟩ := hw'
      subst hw''
      go_wp2
      simp only [Exit.jump]
      go_ret
      exact ⟨_, rfl, by rw [HAP.out]; exact HO.out.grew (by repeat (first | with_reducible exact Grew.refl _ | with_reducible apply Grew.alloc | with_reducible apply Grew.grow | with_reducible apply Grew.drew | with_reducible apply Grew.drewN)), HG.out.trans (by repeat (first | with_reducible exact Grew.refl _ | with_reducible apply Grew.alloc | with_reducible apply Grew.grow | with_reducible apply Grew.drew | with_reducible apply Grew.drewN))⟩
    · have a1 : decide ((N : Int) < 2) = false := decide_eq_false (by omega)
      have a2 : decide (N < 2) = false := decide_eq_false hA
      obtain ⟨n, hn⟩ : ∃ n, N = n + 2 := ⟨N - 2, by omega⟩
      obtain ⟨m, hmn⟩ : ∃ m, m = n + 1 := ⟨_, rfl⟩
      obtain ⟨x, hx⟩ : ∃ x, l[m]? = some x := ⟨_, List.getElem?_eq_getElem (by rw [HN.out]; omega)⟩
      obtain ⟨y, hy⟩ : ∃ y, l[n]? = some y := ⟨_, List.getElem?_eq_getElem (by rw [HN.out]; omega)⟩
      have rx := OwnE.range Tot.cs_len HO.out m x hx
      have ry := OwnE.range Tot.cs_len HO.out n y hy
      have cx := range_n rx
      have cy := range_n ry
      have e1 : (N : Int) - 1 = (m : Int) := by omega
      have e2 : (N : Int) - 2 = (n : Int) := by omega
      have i1 : (m : Int) < (N : Int) := by omega
      have i2 : (n : Int) < (N : Int) := by omega
      have w1 : (m : Int) ≤ 2000 := by omega
      have w2 : (n : Int) ≤ 2000 := by omega
      have w3 : (N : Int) ≤ 2000 := by omega
      by_cases hq : y.n = x.n
      rotate_left
      · have hap : appT p leaf = l := by
          unfold appT
          rw [← HM.out, app_stop l x y (by rw [HN.out]; omega) (by rw [HN.out, hn, show n + 2 - 1 = m by omega]; exact hx) (by rw [HN.out, hn]; exact hy) (fun h => hq h.symm), List.reverse_reverse]
        have HAP := Lib.hid hap
        have q1 : decide (y.n = x.n) = false := decide_eq_false hq
        have q2 : (y.n == x.n) = false := by simpa using hq
        have q3 : (y.n != x.n) = true := by simpa using hq
        clear hap hA hx hy rx ry hn h1 h2 hmn
        go_wp2
        first | refine wp_region_pure_lit_g (by kernel_rfl) (by kernel_rfl) ?_ | refine wp_region_pure_lit (by kernel_rfl) (by kernel_rfl) ?_
        repeat (go_big_quiet_step ((fail)))
        refine wpQuiet_nil ?_
        intro _ hw'
        obtain ⟨δ1, hw''⟩ := hw'
        subst hw''
        go_wp2
        simp only [Exit.jump]
        go_ret
        exact ⟨_, rfl, by rw [HAP.out]; exact HO.out.grew (by repeat (first | with_reducible exact Grew.refl _ | with_reducible apply Grew.alloc | with_reducible apply Grew.grow | with_reducible apply Grew.drew | with_reducible apply Grew.drewN)), HG.out.trans (by repeat (first | with_reducible exact Grew.refl _ | with_reducible apply Grew.alloc | with_reducible apply Grew.grow | with_reducible apply Grew.drew | with_reducible apply Grew.drewN))⟩
      · have hap := app_two l x y (by rw [HN.out]; omega) (by rw [HN.out, hn, show n + 2 - 1 = m by omega]; exact hx) (by rw [HN.out, hn]; exact hy) hq.symm
        rw [HN.out, hn, Nat.add_sub_cancel, HM.out] at hap
        have HAP := Lib.hid hap
        have q1 : decide (y.n = x.n) = true := decide_eq_true hq
        have q2 : (y.n == x.n) = true := by simpa using hq
        have q3 : (y.n != x.n) = false := by simpa using hq
        have HT := Lib.hid (ownE_take Tot.cs_len HO.out n (by rw [HN.out]; omega))
        have hlt : (l.take n).length = n := by rw [List.length_take, HN.out]; omega
        have HLT := Lib.hid hlt
        have hlx := x.h.len
        have hly := y.h.len
        have HRX := Lib.hid rx
        have HRY := Lib.hid ry
        have hn3 : (n : Int) ≤ (cap : Int) := by omega
        have HB := Lib.hid hb
        have H1 := Lib.hid (show n + 2 = N from hn.symm)
        have H2 := Lib.hid h2
        clear hap hA hx hy rx ry hlt hb h1 h2 hmn hn hq
        go_wp2
        first | refine wp_region_pure_lit_g (by kernel_rfl) (by kernel_rfl) ?_ | refine wp_region_pure_lit (by kernel_rfl) (by kernel_rfl) ?_
        repeat (go_big_quiet_step ((fail)))
        refine wpQuiet_nil ?_
        intro _ hw'
        obtain ⟨δ1, hw''⟩ := hw'
        subst hw''
        go_wp2
        clear cx cy a1 a2 q1 q2 q3 hgs
        refine wp_region_flowX [16,17] (by kernel_rfl) ?_
        intro δf
        refine flowX_abs ?_
        intro Y hY
        have g0 : Grew wr Y := by rw [hY]; exact (by repeat (first | with_reducible exact Grew.refl _ | with_reducible apply Grew.alloc | with_reducible apply Grew.grow | with_reducible apply Grew.drew | with_reducible apply Grew.drewN))
        have ld1 : ∀ δ, (rowLoad 29 (.pointer (some ⟨g, m * 37, none⟩))).run Try.prog (Y.grow δ) = .ok (.value (.agg (ta x.h.l x.w.n x.n))) (Y.grow δ) := load_totg (rangeAt_grew HRX.out g0)
        have ld2 : ∀ δ, (rowLoad 29 (.pointer (some ⟨g, n * 37, none⟩))).run Try.prog (Y.grow δ) = .ok (.value (.agg (ta y.h.l y.w.n y.n))) (Y.grow δ) := load_totg (rangeAt_grew HRY.out g0)
        have G0 := Lib.hid g0
        clear hY g0
        apply wpFlowX_quiets [0,1,2,3,4,5,6,7,8,9,10,11,12,13] (by decide +kernel) (by decide +kernel) (by kernel_rfl) (by intro _ _ _ d _ h; cases d <;> exact h) _
        · intro A hA δ'
          simp only [pickOps_cons, pickOps_nil, pick1_zero, pick1_succ]
          repeat (go_big_quiet_step ((fail)))
          exact wpQuiet_nil hA.out.symm
        clear ld1 ld2
        obtain ⟨J0, hJ0⟩ : ∃ J0, Tot.join y x = J0 := ⟨_, rfl⟩
        have jw := fun w => join_w y x w
        unfold Tot.v at jw
        rw [hJ0] at HAP jw
        have JW := Lib.hid jw
        have hlj := J0.h.len
        clear jw hJ0
        refine wpFlowX_one 14 (by decide +kernel) (by kernel_rfl) (by decide +kernel) (by decide +kernel) ?_
        simp only [pickOps_cons, pickOps_nil, pick1_zero, pick1_succ]
        intro δf
        go_wp2_with (go_at_call 20; refine (JW.out _).mono ?_; rintro e W1 ⟨rfl, hg⟩)
        refine ⟨(by first | assumption | (simp only [grow_grow, Array.append_assoc]; assumption) | exact Grew.refl _ | (simp only [grow_grow, Array.append_assoc]; exact (by repeat (first | with_reducible exact Grew.refl _ | with_reducible apply Grew.alloc | with_reducible apply Grew.grow | with_reducible apply Grew.drew | with_reducible apply Grew.drewN))) | exact (by repeat (first | with_reducible exact Grew.refl _ | with_reducible apply Grew.alloc | with_reducible apply Grew.grow | with_reducible apply Grew.drew | with_reducible apply Grew.drewN))), ?_⟩
        have G1 := Lib.hid ((show Grew Y _ from (by repeat (first | with_reducible exact Grew.refl _ | with_reducible apply Grew.alloc | with_reducible apply Grew.grow | with_reducible apply Grew.drew | with_reducible apply Grew.drewN))).trans hg)
        clear hg
        refine wpFlowX_one 15 (by decide +kernel) (by kernel_rfl) (by decide +kernel) (by decide +kernel) ?_
        simp only [pickOps_cons, pickOps_nil, pick1_zero, pick1_succ]
        intro δf
        go_wp2_with (fail)
        refine ⟨(by first | assumption | (simp only [grow_grow, Array.append_assoc]; assumption) | exact Grew.refl _ | (simp only [grow_grow, Array.append_assoc]; exact (by repeat (first | with_reducible exact Grew.refl _ | with_reducible apply Grew.alloc | with_reducible apply Grew.grow | with_reducible apply Grew.drew | with_reducible apply Grew.drewN))) | exact (by repeat (first | with_reducible exact Grew.refl _ | with_reducible apply Grew.alloc | with_reducible apply Grew.grow | with_reducible apply Grew.drew | with_reducible apply Grew.drewN))), ?_⟩
        refine flowX_abs ?_
        intro W hW
        have gW : Grew W1 W := by rw [hW]; exact (by repeat (first | with_reducible exact Grew.refl _ | with_reducible apply Grew.alloc | with_reducible apply Grew.grow | with_reducible apply Grew.drew | with_reducible apply Grew.drewN))
        have sh : ShowsT W (.slice (some ⟨W1.heap.size + δf.n, 0, none⟩) 1 1) [J0] := by rw [hW]; exact showsE_one_g Tot.cs_len W1 δf J0 _ _ (Nat.le_refl _)
        have GY := Lib.hid (G1.out.trans gW)
        have SH := Lib.hid sh
        obtain ⟨b3, hb3⟩ : ∃ b3, W1.heap.size + δf.n = b3 := ⟨_, rfl⟩
        rw [hb3] at SH ⊢
        clear hW gW sh G1 hb3
        refine wpFlowX_esc 16 (by decide +kernel) (by kernel_rfl) (by decide +kernel) (by decide +kernel) ?_
        simp only [pickOps_cons, pickOps_nil, pick1_zero, pick1_succ]
        intro δf
        refine wpList_appendE2 Tot.cs_len (by decide) rfl _ _ _ rfl _ ii _ 72 under_ts hif hz hsz hby tot0_cells Tot.cs_one w _ w.heap.size _ _ rfl rfl (l.take n) [J0] (((HG.out.trans G0.out).trans GY.out).grow _) (Nat.le_refl _) (by have := ((HG.out.trans G0.out).trans GY.out).size; simp; omega) (by exact ((HT.out.grew G0.out).grew GY.out).grew (by repeat (first | with_reducible exact Grew.refl _ | with_reducible apply Grew.alloc | with_reducible apply Grew.grow | with_reducible apply Grew.drew | with_reducible apply Grew.drewN))) (by exact SH.out.grew (by repeat (first | with_reducible exact Grew.refl _ | with_reducible apply Grew.alloc | with_reducible apply Grew.grow | with_reducible apply Grew.drew | with_reducible apply Grew.drewN))) (by rw [HLT.out]; simp [maxLen]; omega) (by rw [HLT.out]; simp; omega) ?_
        intro v2 W2 ho2 hg2
        have HO2 := Lib.hid ho2
        have HG2 := Lib.hid hg2
        clear ho2 hg2 GY SH
        refine wpList_nil_then ?_
        refine wpAny_one 17 (by decide +kernel) (by kernel_rfl) (by decide +kernel) ?_
        simp only [pickOps_cons, pickOps_nil, pick1_zero, pick1_succ]
        go_wp2_with (fail)
        refine wpAny_end (by decide +kernel) (by kernel_rfl) ?_
        go_wp2
        go_step3
        refine ⟨rfl, ⟨l.take n ++ [J0], v2, _, _, _, _, _, _, _, _, _, _, _, _, _, _, _, _, _, _, _, _, _, _, _, _, _, _, _, _, _, _, _, _, _, _, _, _, _, _, _, _, _, _, _, _, _, _, _, _, rfl, by simp, ?_, HAP.out, HO2.out, HG2.out⟩, ?_⟩
        · have := H1.out; have := H2.out; rw [List.length_append, HLT.out]; simp; omega
        · obtain ⟨q2, c2, hv2⟩ := ownT_len HO2.out
          rw [hv2, List.length_append, HLT.out, appM_at, appM_at]
          have := H1.out; simp; omega
end Go.Proofs.Ytnhcamklammcdaa
/- slices.Equal of totals, and the document's Same (printed by gen_tots2.py). -/
namespace Go.Proofs.Ytnhcamklammcdaa
set_option linter.unusedVariables false
set_option linter.unusedSimpArgs false
open Go.RowKit
set_option maxRecDepth 100000
@[go_sem ↓] theorem eql_tot (a b : Tot) (w : World) : (binOp .eql 29 (.agg (ta a.h.l a.w.n a.n)) (.agg (ta b.h.l b.w.n b.n))).run Try.prog w = .ok (.bool (Tot.eq a b)) w := by
  rw [run_eql_struct, equal_tot]; rfl
@[go_sem ↓] theorem neq_tot (a b : Tot) (w : World) : (binOp .neq 29 (.agg (ta a.h.l a.w.n a.n)) (.agg (ta b.h.l b.w.n b.n))).run Try.prog w = .ok (.bool (!Tot.eq a b)) w := by
  rw [run_neq_struct, equal_tot]; rfl
@[go_sem] theorem guard_tot : Try.prog.eqGuardType Try.prog.depth 29 = false := by kernel_rfl
theorem same_all {ls ms : List Tot} (h : ls.length = ms.length) (hk : ∀ j, j < ls.length → ls[j]? = ms[j]?) : ls = ms := by
  apply List.ext_getElem?
  intro j
  by_cases hj : j < ls.length
  · exact hk j hj
  · rw [List.getElem?_eq_none (by omega), List.getElem?_eq_none (by omega)]
noncomputable section
open Classical
def sameT (ls ms : List Tot) : Bool := decide (ls = ms)
theorem sameT_iff (ls ms : List Tot) : sameT ls ms = true ↔ ls = ms := by
  unfold sameT
  exact decide_eq_true_iff
end
theorem sameT_false {ls ms : List Tot} (h : ls ≠ ms) : sameT ls ms = false := by
  cases hb : sameT ls ms
  · rfl
  · exact absurd ((sameT_iff ls ms).1 hb) h
set_option maxHeartbeats 3200000 in
theorem equalT_w (ls ms : List Tot) (v u : Value) (w : World) (hv : ShowsT w v ls) (hu : ShowsT w u ms) (hl : ls.length ≤ 1099511627776) (hm : ms.length ≤ 1099511627776) :
    Calls Try.prog 37 #[v, u] w fun e w' => e = .returned (.bool (sameT ls ms)) ∧ Grew w w' := by
  obtain ⟨p, c, rfl⟩ := showsT_form hv
  obtain ⟨q, d, rfl⟩ := showsT_form hu
  have HV := Lib.hid hv
  have HU := Lib.hid hu
  clear hv hu
  by_cases hne : ls.length = ms.length
  rotate_left
  · have hI : ¬ (ls.length : Int) = (ms.length : Int) := by omega
    have hs : sameT ls ms = false := sameT_false (fun h => hne (by rw [h]))
    rw [hs]
    clear hs hne
    go_enter Try.func37, Try.ntmps37
    go_wp2
    go_ret
    exact ⟨rfl, Grew.refl _⟩
  · have HN := Lib.hid hne
    rw [← hne] at HU ⊢
    obtain ⟨N, hN⟩ : ∃ N, ls.length = N := ⟨_, rfl⟩
    have HN2 := Lib.hid hN
    rw [hN] at HV HU hl ⊢
    clear hne hN hm
    go_enter Try.func37, Try.ntmps37
    go_wp2
    go_loopw [13] (fun i wr => ∃ k : Nat, k ≤ N ∧ i = .int .i64 k ∧ (∀ j, j < k → ls[j]? = ms[j]?) ∧ Grew w wr) (fun i _ => N - (intOf i).toNat)
    case atStart => exact ⟨0, by omega, rfl, fun j hj => by omega, Grew.refl _⟩
    case round =>
      obtain ⟨k, hk, rfl, heq, hg⟩ := hrel
      have HE := Lib.hid heq
      have HG := Lib.hid hg
      clear heq hg
      by_cases hkN : k < N
      · have hlt : (k : Int) < (N : Int) := by omega
        obtain ⟨b1, o1, rfl, -, -, hb1, hr1⟩ := showsT_some HV.out (by rw [HN2.out]; omega)
        obtain ⟨b2, o2, rfl, -, -, hb2, hr2⟩ := showsT_some HU.out (by rw [← HN.out, HN2.out]; omega)
        obtain ⟨x, hx⟩ : ∃ x, ls[k]? = some x := ⟨_, List.getElem?_eq_getElem (by rw [HN2.out]; exact hkN)⟩
        obtain ⟨y, hy⟩ : ∃ y, ms[k]? = some y := ⟨_, List.getElem?_eq_getElem (by rw [← HN.out, HN2.out]; exact hkN)⟩
        have l1 := fun δ => load_totg (rangeAt_grew (hr1 k x hx) HG.out) δ
        have l2 := fun δ => load_totg (rangeAt_grew (hr2 k y hy) HG.out) δ
        have HX := Lib.hid (And.intro hx hy)
        unfold Tot.v at l1 l2
        clear hx hy hr1 hr2 hb1 hb2
        cases hq : Tot.eq x y
        · have hs : sameT ls ms = false := by
            refine sameT_false (fun h => ?_)
            subst h
            have := (Option.some.inj (HX.out.1.symm.trans HX.out.2))
            rw [(Tot.eq_iff x y).2 this] at hq
            cases hq
          have HS := Lib.hid hs
          clear hs
          go_wp2
          first | refine wp_region_pure_lit_g (by kernel_rfl) (by kernel_rfl) ?_ | refine wp_region_pure_lit (by kernel_rfl) (by kernel_rfl) ?_
          repeat (go_big_quiet_step ((fail)))
          refine wpQuiet_nil ?_
          intro _ hw'
          obtain ⟨δ1, hw''⟩ := hw'
          subst hw''
          go_wp2
          go_ret
          exact ⟨by rw [HS.out]; rfl, HG.out.trans (by repeat (first | with_reducible exact Grew.refl _ | with_reducible apply Grew.alloc | with_reducible apply Grew.grow | with_reducible apply Grew.drew | with_reducible apply Grew.drewN))⟩
        · have hxy := (Tot.eq_iff x y).1 hq
          have HXY := Lib.hid hxy
          clear hxy
          go_wp2
          first | refine wp_region_pure_lit_g (by kernel_rfl) (by kernel_rfl) ?_ | refine wp_region_pure_lit (by kernel_rfl) (by kernel_rfl) ?_
          repeat (go_big_quiet_step ((fail)))
          refine wpQuiet_nil ?_
          intro _ hw'
          obtain ⟨δ1, hw''⟩ := hw'
          subst hw''
          go_wp2
          exact ⟨⟨k + 1, by omega, by go_num, fun j hj => by
            by_cases hjk : j = k
            · subst hjk; rw [HX.out.1, HX.out.2, HXY.out]
            · exact HE.out j (by omega), HG.out.trans (by repeat (first | with_reducible exact Grew.refl _ | with_reducible apply Grew.alloc | with_reducible apply Grew.grow | with_reducible apply Grew.drew | with_reducible apply Grew.drewN))⟩, by simp only [intOf]; omega⟩
      · obtain rfl : k = N := by omega
        have hge : ¬ ((k : Int) < (k : Int)) := by omega
        have hs : sameT ls ms = true := (sameT_iff ls ms).2 (same_all HN.out (by rw [HN2.out]; exact HE.out))
        have HS := Lib.hid hs
        clear hs hk hkN
        go_wp2
        go_ret
        exact ⟨by rw [HS.out]; rfl, HG.out⟩
set_option maxHeartbeats 3200000 in
theorem rsame_w (ls ms : List Tot) (v u : Value) (w : World) (hv : ShowsT w v ls) (hu : ShowsT w u ms) (hl : ls.length ≤ 1099511627776) (hm : ms.length ≤ 1099511627776) :
    Calls Try.prog 10 #[v, u] w fun e w' => e = .returned (.bool (sameT ls ms)) ∧ Grew w w' := by
  obtain ⟨p, c, rfl⟩ := showsT_form hv
  obtain ⟨q, d, rfl⟩ := showsT_form hu
  have HV := Lib.hid hv
  have HU := Lib.hid hu
  clear hv hu
  by_cases hne : ls.length = ms.length
  rotate_left
  · have hI : ¬ (ls.length : Int) = (ms.length : Int) := by omega
    have hs : sameT ls ms = false := sameT_false (fun h => hne (by rw [h]))
    rw [hs]
    clear hs hne
    go_enter Try.func10, Try.ntmps10
    go_wp2
    go_ret
    exact ⟨rfl, Grew.refl _⟩
  · have HN := Lib.hid hne
    rw [← hne] at HU ⊢
    obtain ⟨N, hN⟩ : ∃ N, ls.length = N := ⟨_, rfl⟩
    have HN2 := Lib.hid hN
    rw [hN] at HV HU hl ⊢
    clear hne hN hm
    go_enter Try.func10, Try.ntmps10
    go_wp2
    go_loopw [5] (fun i wr => ∃ k : Nat, k ≤ N ∧ i = .int .i64 k ∧ (∀ j, j < k → ls[j]? = ms[j]?) ∧ Grew w wr) (fun i _ => N - (intOf i).toNat)
    case atStart => exact ⟨0, by omega, rfl, fun j hj => by omega, Grew.refl _⟩
    case round =>
      obtain ⟨k, hk, rfl, heq, hg⟩ := hrel
      have HE := Lib.hid heq
      have HG := Lib.hid hg
      clear heq hg
      by_cases hkN : k < N
      · have hlt : (k : Int) < (N : Int) := by omega
        obtain ⟨b1, o1, rfl, -, -, hb1, hr1⟩ := showsT_some HV.out (by rw [HN2.out]; omega)
        obtain ⟨b2, o2, rfl, -, -, hb2, hr2⟩ := showsT_some HU.out (by rw [← HN.out, HN2.out]; omega)
        obtain ⟨x, hx⟩ : ∃ x, ls[k]? = some x := ⟨_, List.getElem?_eq_getElem (by rw [HN2.out]; exact hkN)⟩
        obtain ⟨y, hy⟩ : ∃ y, ms[k]? = some y := ⟨_, List.getElem?_eq_getElem (by rw [← HN.out, HN2.out]; exact hkN)⟩
        have l1 := fun δ => load_totg (rangeAt_grew (hr1 k x hx) HG.out) δ
        have l2 := fun δ => load_totg (rangeAt_grew (hr2 k y hy) HG.out) δ
        have HX := Lib.hid (And.intro hx hy)
        unfold Tot.v at l1 l2
        clear hx hy hr1 hr2 hb1 hb2
        cases hq : Tot.eq x y
        · have hs : sameT ls ms = false := by
            refine sameT_false (fun h => ?_)
            subst h
            have := (Option.some.inj (HX.out.1.symm.trans HX.out.2))
            rw [(Tot.eq_iff x y).2 this] at hq
            cases hq
          have HS := Lib.hid hs
          clear hs
          go_wp2
          first | refine wp_region_pure_lit_g (by kernel_rfl) (by kernel_rfl) ?_ | refine wp_region_pure_lit (by kernel_rfl) (by kernel_rfl) ?_
          repeat (go_big_quiet_step ((fail)))
          refine wpQuiet_nil ?_
          intro _ hw'
          obtain ⟨δ1, hw''⟩ := hw'
          subst hw''
          go_wp2
          go_ret
          exact ⟨by rw [HS.out]; rfl, HG.out.trans (by repeat (first | with_reducible exact Grew.refl _ | with_reducible apply Grew.alloc | with_reducible apply Grew.grow | with_reducible apply Grew.drew | with_reducible apply Grew.drewN))⟩
        · have hxy := (Tot.eq_iff x y).1 hq
          have HXY := Lib.hid hxy
          clear hxy
          go_wp2
          first | refine wp_region_pure_lit_g (by kernel_rfl) (by kernel_rfl) ?_ | refine wp_region_pure_lit (by kernel_rfl) (by kernel_rfl) ?_
          repeat (go_big_quiet_step ((fail)))
          refine wpQuiet_nil ?_
          intro _ hw'
          obtain ⟨δ1, hw''⟩ := hw'
          subst hw''
          go_wp2
          exact ⟨⟨k + 1, by omega, by go_num, fun j hj => by
            by_cases hjk : j = k
            · subst hjk; rw [HX.out.1, HX.out.2, HXY.out]
            · exact HE.out j (by omega), HG.out.trans (by repeat (first | with_reducible exact Grew.refl _ | with_reducible apply Grew.alloc | with_reducible apply Grew.grow | with_reducible apply Grew.drew | with_reducible apply Grew.drewN))⟩, by simp only [intOf]; omega⟩
      · obtain rfl : k = N := by omega
        have hge : ¬ ((k : Int) < (k : Int)) := by omega
        have hs : sameT ls ms = true := (sameT_iff ls ms).2 (same_all HN.out (by rw [HN2.out]; exact HE.out))
        have HS := Lib.hid hs
        clear hs hk hkN
        go_wp2
        go_ret
        exact ⟨by rw [HS.out]; rfl, HG.out⟩
end Go.Proofs.Ytnhcamklammcdaa
/- An argument of numbers of 32 bits, opened (printed by gen_u32s.py). -/
namespace Go.Proofs.Ytnhcamklammcdaa
set_option linter.unusedVariables false
set_option linter.unusedSimpArgs false
open Go.ChangeShapes Go.WideShapes Go.ChangeAt Go.RowKit
set_option maxRecDepth 100000
theorem cellsU32 : Try.prog.cellsOf 75 = 1 := by kernel_rfl
/-- The cells of numbers of 32 bits. -/
def nvs (l : List Nat) : List Value := l.map fun (c : Nat) => Value.int .u32 (c : Int)
theorem nvs_len (l : List Nat) : (nvs l).length = l.length := by simp [nvs]
/-- Cells of numbers of 32 bits, as numbers. -/
theorem u32s_nat : ∀ (zs : List Int), (∀ n ∈ zs, (Lit.int .u32 n).wf = true) → ∃ l : List Nat, zs = l.map (fun (c : Nat) => (c : Int)) ∧ ∀ c ∈ l, c < 4294967296
  | [], _ => ⟨[], rfl, by simp⟩
  | z :: zs, h => by
    obtain ⟨n, rfl, hn⟩ := u32_nat (h z (by simp))
    obtain ⟨l, rfl, hl⟩ := u32s_nat zs (fun n hn => h n (by simp [hn]))
    exact ⟨n :: l, rfl, by intro c hc; rcases List.mem_cons.1 hc with rfl | hc; exact hn; exact hl c hc⟩
theorem open_u32s {H : Type} {enc : TypeId × Value → H} {W : World} {v : Value} {d : DataW H} {p : List MemPlace} (h : DataW.Trod enc Try.prog W 0 (fun _ => true) true 44 v d p) (hv : v.cells = #[v]) :
    ∃ (q : Option Addr) (c : Nat) (l : List Nat), v = .slice q l.length c ∧ (∀ x ∈ l, x < 4294967296) ∧ l.length ≤ maxLen ∧ Shows W (.slice q l.length c) (nvs l) := by
  obtain ⟨fuel, hf⟩ := h
  rw [hv] at hf
  rcases open_ints Try.underlying44 Try.underlying75 cellsU32 hf with ⟨hcs, _⟩ | ⟨a, len, cap, zs, hcs, _, hl, hm, hz, _, hcell, hwz⟩
  · obtain rfl : v = .slice none 0 0 := by simpa using hcs
    exact ⟨none, 0, [], rfl, by simp, by simp, .inr ⟨_, _, rfl, rfl⟩⟩
  · obtain rfl : v = .slice (some a) len cap := by simpa using hcs
    simp only [if_true] at hz
    obtain ⟨l, rfl, hlb⟩ := u32s_nat zs hwz
    have hl2 : (l.take len).length = len := by rw [List.length_take]; rw [List.length_map] at hz; omega
    refine ⟨some a, cap, l.take len, by rw [hl2], fun x hx => hlb x (List.mem_of_mem_take hx), by omega, ?_⟩
    have := shows_of_cells (w := W) (a := a) (c := cap) (xs := nvs (l.take len)) (fun j u hj => by
      have hj2 : j < (l.take len).length := by
        have := (List.getElem?_eq_some_iff.1 hj).1
        rwa [nvs_len] at this
      rw [hl2] at hj2
      rw [List.length_map] at hz hcell
      rw [hcell j (by omega)]
      have hj3 : j < l.length := by omega
      simp only [nvs, List.getElem?_map, List.getElem?_take, if_pos hj2, List.getElem?_eq_getElem hj3, Option.map_some, Option.some.injEq] at hj
      rw [← hj]
      simp [List.getD, hj3])
    rwa [nvs_len] at this
end Go.Proofs.Ytnhcamklammcdaa
/- As Flow, where whatever steps may write, as long as what the quiet steps read stays ('C'). No program in sight. -/
namespace Go
set_option linter.unusedVariables false
set_option linter.unusedSimpArgs false
open Go.RowKit
section
variable {P : Program} {ops : Array Oper} {md : Region.Mode} {C : World → Prop}
/-- Whatever order comes, in whatever world of the class has come meanwhile. -/
def wpFlowC (P : Program) (md : Region.Mode) (ops : Array Oper) (C : World → Prop) (Q : Exit → Act → World → Prop) : Nat → Array Bool → Act → World → Prop
  | 0, listed, a, w => Region.ready md ops listed = [] ∧ ∀ w', Grew w w' → C w' → Q .normal a w'
  | f + 1, listed, a, w =>
    (Region.ready md ops listed = [] → ∀ w', Grew w w' → C w' → Q .normal a w') ∧
    ∀ i ∈ Region.ready md ops listed, ∀ w', Grew w w' → C w' → wpOp P ops Q i (fun a' w'' => C w'' ∧ wpFlowC P md ops C Q f (listed.setIfInBounds i true) a' w'') a w'
theorem wpFlowC_mono {Q : Exit → Act → World → Prop} : ∀ (f : Nat) (listed : Array Bool) (a : Act) (w w' : World), Grew w w' → wpFlowC P md ops C Q f listed a w → wpFlowC P md ops C Q f listed a w'
  | 0, _, _, _, _, hg, h => ⟨h.1, fun w'' hg' => h.2 w'' (hg.trans hg')⟩
  | f + 1, listed, a, w, w', hg, h => ⟨fun h0 w'' hg' => h.1 h0 w'' (hg.trans hg'), fun i hi w'' hg' => h.2 i hi w'' (hg.trans hg')⟩
theorem wpAny_of_flowC {Q : Exit → Act → World → Prop} : ∀ (f : Nat) (listed : Array Bool) (a : Act) (w : World), C w → wpFlowC P md ops C Q f listed a w → wpAny P md ops Q f listed a w
  | 0, _, _, w, hc, h => ⟨h.1, h.2 w (Grew.refl _) hc⟩
  | f + 1, listed, a, w, hc, h => ⟨fun h0 => h.1 h0 w (Grew.refl _) hc, fun i hi => wpOp_mono (fun a' w' h' => wpAny_of_flowC f _ a' w' h'.1 h'.2) (h.2 i hi w (Grew.refl _) hc)⟩
/-- A quiet step goes first. -/
theorem wpFlowC_first (hG : ∀ w w', C w → Grew w w' → C w') {i : Nat} {oi : Oper} {v : Value} {Q : Exit → Act → World → Prop} (hQ : ∀ c a w d v, Q (.panic c) (Act.put a d v) w → Q (.panic c) a w)
    (hi : ops[i]? = some oi) (hsel : ∀ (j : Nat) (o : Oper) cs b, ops[j]? = some o → o.op ≠ .select cs b) :
    ∀ (f : Nat) (listed : Array Bool) (a : Act) (w : World),
      (∀ j oj, ops[j]? = some oj → j ≠ i → listed.getD j true = false → (∀ e ∈ oj.after, Region.binds md e = true → e.on ≠ i) → oi.apart ops oj = true) →
      i ∈ Region.ready md ops listed → GivesIn P ops C oi v a →
      wpFlowC P md ops C Q f (listed.setIfInBounds i true) (a.put oi.dst v) w → wpFlowC P md ops C Q (f + 1) listed a w := by
  have self : ∀ (f : Nat) (listed : Array Bool) (a : Act) (w : World), GivesIn P ops C oi v a → wpFlowC P md ops C Q f (listed.setIfInBounds i true) (a.put oi.dst v) w →
      ∀ w', Grew w w' → C w' → wpOp P ops Q i (fun a' w'' => C w'' ∧ wpFlowC P md ops C Q f (listed.setIfInBounds i true) a' w'') a w' := fun f listed a w hy Hh w' hg hc =>
    wpOp_of_gives hi hy hc fun w'' hg' => ⟨hG _ _ hc hg', wpFlowC_mono f _ _ _ _ (hg.trans hg') Hh⟩
  intro f
  induction f with
  | zero =>
    intro listed a w _ hr hy Hh
    refine ⟨fun h => (by rw [h] at hr; cases hr), fun j hj => ?_⟩
    by_cases hji : j = i
    · subst hji; exact self 0 listed a w hy Hh
    · have := ready_mono hj hji
      rw [Hh.1] at this
      cases this
  | succ f ih =>
    intro listed a w hfree hr hy Hh
    refine ⟨fun h => (by rw [h] at hr; cases hr), fun j hj => ?_⟩
    by_cases hji : j = i
    · subst hji; exact self (f + 1) listed a w hy Hh
    · have h1 := Hh.2 j (ready_mono hj hji)
      obtain ⟨hjun, oj, hoj, hall⟩ := mem_ready.1 hj
      have hun := (mem_ready.1 hr).1
      have hnot : ∀ e ∈ oj.after, Region.binds md e = true → e.on ≠ i := fun e he hb heq => by
        have h1 := hall e he hb
        rw [heq, getD_both hun] at h1
        cases h1
      have hfree' : ∀ k ok, ops[k]? = some ok → k ≠ i → (listed.setIfInBounds j true).getD k true = false →
          (∀ e ∈ ok.after, Region.binds md e = true → e.on ≠ i) → oi.apart ops ok = true := fun k ok hk hki hun hno => by
        refine hfree k ok hk hki ?_ hno
        by_cases hjk : j = k
        · subst hjk; exact hjun
        · rw [getD_set_ne true hjk] at hun; exact hun
      have hap := hfree j oj hoj hji hjun hnot
      intro w' hg hc
      have h2 := wpOp_putG hoj hap (fun cs b => hsel i oi cs b hi) (fun cs b => hsel j oj cs b hoj) hQ hy (h1 w' hg hc)
      refine wpOp_mono (fun a' w'' h3 => ⟨h3.2.1, ih (listed.setIfInBounds j true) a' w'' hfree' (ready_mono hr (Ne.symm hji)) h3.1 ?_⟩) h2
      rw [Array.setIfInBounds_comm _ _ hji]
      exact h3.2.2
theorem wpFlowC_lex (hG : ∀ w w', C w → Grew w w' → C w') {Q : Exit → Act → World → Prop} {A : Act} (hQ : ∀ c a w d v, Q (.panic c) (Act.put a d v) w → Q (.panic c) a w) (hsel : Region.noSelect ops = true) {w : World} (f : Nat) :
    ∀ (qs : List Nat) (listed : Array Bool) (a : Act), wpFlowC P md ops C Q f (Region.listAll listed qs) A w → Region.flowLex md ops qs listed = true → givesAll P ops C A qs a → wpFlowC P md ops C Q (qs.length + f) listed a w
  | [], listed, a, hE, _, h => by
    simp only [givesAll] at h
    subst h
    rw [List.length_nil, Nat.zero_add]
    exact hE
  | k :: qs, listed, a, hE, hB, h => by
    simp only [Region.flowLex, Bool.and_eq_true] at hB
    obtain ⟨⟨hr, hf⟩, hB'⟩ := hB
    obtain ⟨o, d, ho', hd, hy, hk⟩ := h
    have hr' : k ∈ Region.ready md ops listed := by simpa using hr
    rw [List.length_cons, show qs.length + 1 + f = qs.length + f + 1 by omega]
    refine wpFlowC_first hG hQ ho' (Region.noSelect_spec hsel) _ listed a w (Region.free_spec ho' hf) hr' hy ?_
    rw [hd]
    exact wpFlowC_lex hG hQ hsel f qs _ _ hE hB' hk
end
section
variable {P : Program} {l : List Oper} {Q : Exit → Act → World → Prop} {C : World → Prop}
/-- Quiet steps, in the text's order. -/
theorem wpFlowC_quiets (qs : List Nat) (hG : ∀ w w', C w → Grew w w' → C w') (hne : ∃ Y, C Y) {n : Nat} {listed : Array Bool} {a : Act} {w : World} (hn : decide (qs.length ≤ n) = true)
    (hB : (Region.noSelect l.toArray && Region.flowLex .any l.toArray qs listed && envOk qs l.length) = true) (hD : envDsts qs l.toArray a.tmps.size = true)
    (hQ : ∀ c a w d v, Q (.panic c) (Act.put a d v) w → Q (.panic c) a w) (V : Act)
    (hq : ∀ A, Hid (A = V) → ∀ Y, C Y → wpQuiet P l.toArray (fun w' => ∃ n, w' = Y.grow n) (fun a' => a' = A) (pickOps l qs) a)
    (h : wpFlowC P .any l.toArray C Q (n - qs.length) (Region.listAll listed qs) V w) : wpFlowC P .any l.toArray C Q n listed a w := by
  simp only [Bool.and_eq_true] at hB
  obtain ⟨⟨hsel, hlex⟩, hok⟩ := hB
  obtain ⟨f, rfl⟩ : ∃ f, n = qs.length + f := ⟨n - qs.length, by have := of_decide_eq_true hn; omega⟩
  rw [Nat.add_sub_cancel_left] at h
  exact wpFlowC_lex hG hQ hsel f qs listed a h hlex (givesAll_of_quiet (H := C) hne qs (pickOps l qs) a (map_pick l qs hok) hD (fun Y hY => hq V (rfl : V = V) Y hY))
/-- The steps that are ready: one of them, in some world behind. -/
def wpFlowCS (P : Program) (l : List Oper) (C : World → Prop) (Q : Exit → Act → World → Prop) (x : Nat) (listed : Array Bool) (k : Nat) (a : Act) (w : World) : Prop :=
  ∀ δ, C (w.grow δ) → wpList P l.toArray (Exit.then (fun a' w'' => C w'' ∧ wpFlowC P .any l.toArray C Q x (listed.setIfInBounds k true) a' w'') Q) (pickOps l [k]) a (w.grow δ)
theorem wpFlowC_of {x : Nat} {listed : Array Bool} {a : Act} {w : World} (rs : List Nat) (hx : decide (0 < x) = true) (hr : Region.ready .any l.toArray listed = rs) (hne : rs.isEmpty = false) (hk : envOk rs l.length = true)
    (h : ∀ k ∈ rs, wpFlowCS P l C Q (x - 1) listed k a w) : wpFlowC P .any l.toArray C Q x listed a w := by
  obtain ⟨f, rfl⟩ : ∃ f, x = f + 1 := ⟨x - 1, by have := of_decide_eq_true hx; omega⟩
  refine ⟨fun h0 => (by rw [hr] at h0; rw [h0] at hne; cases hne), fun k hkr w' hg hc => ?_⟩
  rw [hr] at hkr
  have hlt : k < l.length := by
    unfold envOk at hk
    simpa using List.all_eq_true.1 hk k hkr
  obtain ⟨δ, rfl⟩ := hg
  exact wpOp_of_list hlt (h k hkr δ hc)
theorem wpFlowC_one {x : Nat} {listed : Array Bool} {a : Act} {w : World} (k : Nat) (hx : decide (0 < x) = true) (hr : Region.ready .any l.toArray listed = [k]) (hk : envOk [k] l.length = true) (h : wpFlowCS P l C Q (x - 1) listed k a w) :
    wpFlowC P .any l.toArray C Q x listed a w := wpFlowC_of [k] hx hr rfl hk (by intro i hi; simp only [List.mem_singleton] at hi; subst hi; exact h)
theorem wpFlowC_two {x : Nat} {listed : Array Bool} {a : Act} {w : World} (k m : Nat) (hx : decide (0 < x) = true) (hr : Region.ready .any l.toArray listed = [k, m]) (hk : envOk [k, m] l.length = true) (h : wpFlowCS P l C Q (x - 1) listed k a w) (h2 : wpFlowCS P l C Q (x - 1) listed m a w) :
    wpFlowC P .any l.toArray C Q x listed a w := wpFlowC_of [k, m] hx hr rfl hk (by
  intro i hi; simp only [List.mem_cons, List.not_mem_nil, or_false] at hi
  rcases hi with rfl | rfl
  · exact h
  · exact h2)
theorem wpFlowC_three {x : Nat} {listed : Array Bool} {a : Act} {w : World} (k m n : Nat) (hx : decide (0 < x) = true) (hr : Region.ready .any l.toArray listed = [k, m, n]) (hk : envOk [k, m, n] l.length = true) (h : wpFlowCS P l C Q (x - 1) listed k a w) (h2 : wpFlowCS P l C Q (x - 1) listed m a w) (h3 : wpFlowCS P l C Q (x - 1) listed n a w) :
    wpFlowC P .any l.toArray C Q x listed a w := wpFlowC_of [k, m, n] hx hr rfl hk (by
  intro i hi; simp only [List.mem_cons, List.not_mem_nil, or_false] at hi
  rcases hi with rfl | rfl | rfl
  · exact h
  · exact h2
  · exact h3)
theorem wpFlowC_end {x : Nat} {listed : Array Bool} {a : Act} {w : World} (hx : decide (x = 0) = true) (hr : (Region.ready .any l.toArray listed).isEmpty = true) (h : ∀ δ, C (w.grow δ) → Q .normal a (w.grow δ)) : wpFlowC P .any l.toArray C Q x listed a w := by
  obtain rfl := of_decide_eq_true hx
  exact ⟨by simpa using hr, fun w' ⟨δ, h'⟩ => h' ▸ h δ⟩
theorem wp_region_flowC (C : World → Prop) {id : Nat} {a : Act} {w : World} (hG : ∀ w w', C w → Grew w w' → C w') (h0 : C w) (hm : P.follows .mixedOrders = true) (h : ∀ δ, wpFlowC P .any l.toArray C Q l.length (Array.replicate l.length false) a (w.grow δ)) : (Code.region id l.toArray true).wp P Q a w := by
  have h1 := h ⟨#[], w.drawn + 1⟩
  rw [← drew_is_grow] at h1
  refine wp_region_any hm (wpAny_of_flowC _ _ _ _ (hG _ _ h0 ⟨_, drew_is_grow w⟩) ?_)
  simpa using h1
theorem flowC_abs {md : Region.Mode} {ops : Array Oper} {f : Nat} {li : Array Bool} {a : Act} {X : World} (h : ∀ Y, Y = X → wpFlowC P md ops C Q f li a Y) : wpFlowC P md ops C Q f li a X := h X rfl
end
section
variable {P : Program} {l : List Oper} {Q : Exit → Act → World → Prop} {esc : List Nat}
/-- Of two steps that are ready the second one writes. -/
theorem wpFlowX_twoE {x : Nat} {listed : Array Bool} {a : Act} {w : World} (k m : Nat) (hx : decide (0 < x) = true) (hr : (Region.ready .any l.toArray listed = [k, m] ∨ Region.ready .any l.toArray listed = [m, k])) (hk : decide (k < l.length ∧ m < l.length) = true) (he : esc.contains k = false) (he2 : esc.contains m = true)
    (h1 : wpFlowXS P l esc Q (x - 1) listed k a w) (h2 : ∀ δ, wpList P l.toArray (Exit.then (fun a' w'' => wpAny P .any l.toArray Q (x - 1) (listed.setIfInBounds m true) a' w'') Q) (pickOps l [m]) a (w.grow δ)) : wpFlowX P .any l.toArray esc Q x listed a w := by
  obtain ⟨f, rfl⟩ : ∃ f, x = f + 1 := ⟨x - 1, by have := of_decide_eq_true hx; omega⟩
  have hk := of_decide_eq_true hk
  refine ⟨fun h0 => (by rcases hr with hr | hr <;> (rw [hr] at h0; cases h0)), fun i hi w' hg => ?_⟩
  have hi : i = k ∨ i = m := by
    rcases hr with hr | hr <;> (rw [hr] at hi; simp only [List.mem_cons, List.not_mem_nil, or_false] at hi; omega)
  obtain ⟨δ, rfl⟩ := hg
  rcases hi with rfl | rfl
  · simp only [he, Bool.false_eq_true, if_false]
    exact wpOp_of_list hk.1 (h1 δ)
  · simp only [he2, if_true]
    exact wpOp_of_list hk.2 (h2 δ)
end
/-- What lay in 'Z' lies as it lay, but for the block of 'v'. -/
def KeepsX (Z : World) (v : Value) (W : World) : Prop := Z.heap.size ≤ W.heap.size ∧ ∀ b, b < Z.heap.size → v.ownBlock ≠ some b → W.heap[b]? = Z.heap[b]?
theorem KeepsX.refl (Z : World) (v : Value) : KeepsX Z v Z := ⟨Nat.le_refl _, fun _ _ _ => rfl⟩
theorem KeepsX.grew (Z : World) (v : Value) (W W' : World) (h : KeepsX Z v W) (g : Grew W W') : KeepsX Z v W' := ⟨Nat.le_trans h.1 g.size, fun b hb hn => (g.heap (Nat.lt_of_lt_of_le hb h.1)).trans (h.2 b hb hn)⟩
theorem KeepsX.grown {Z W W' : World} {v : Value} (h : KeepsX Z v W) (g : W.grownBy W' v.ownBlock) : KeepsX Z v W' := ⟨Nat.le_trans h.1 g.size, fun b hb hn => (g.block b (Nat.lt_of_lt_of_le hb h.1) (fun e => hn e.symm)).trans (h.2 b hb hn)⟩
theorem KeepsX.setRow {Z W : World} {v : Value} (h : KeepsX Z v W) (g : Nat) (cs : Array Value) (hg : Z.heap.size ≤ g) : KeepsX Z v (W.setRow g cs) := ⟨by rw [setRow_size]; exact h.1, fun b hb hn => (Go.Proofs.Ytnhcamklammcdaa.World.heap_setRow_ne W g cs b (by omega)).trans (h.2 b hb hn)⟩
theorem KeepsX.heap {Z W : World} {v : Value} (h : KeepsX Z v W) {b : Nat} (hb : b < Z.heap.size) (hn : v.ownBlock ≠ some b) : W.heap[b]? = Z.heap[b]? := h.2 b hb hn
theorem KeepsX.rowAt {Z W : World} {v : Value} (h : KeepsX Z v W) {b : Nat} (hb : b < Z.heap.size) (hn : v.ownBlock ≠ some b) : W.rowAt b = Z.rowAt b := rowAt_of_heap (h.2 b hb hn)
theorem KeepsX.rowFree {Z W : World} {v : Value} (h : KeepsX Z v W) {b : Nat} (hb : b < Z.heap.size) (hn : v.ownBlock ≠ some b) : W.rowFree b = Z.rowFree b := rowFree_of_heap (h.2 b hb hn)
theorem KeepsX.cell {Z W : World} {v : Value} (h : KeepsX Z v W) {p : Addr} {u : Value} (hc : Z.cell? p = some u) (hn : v.ownBlock ≠ some p.block) : W.cell? p = some u := (World.cell?_of_block (h.2 _ (World.block_lt_of_cell? _ p hc) hn)).trans hc
/-- What lay in 'Z' lies as it lay, but for the blocks of 'S'. -/
def KeepsP (Z : World) (S : Nat → Prop) (W : World) : Prop := Z.heap.size ≤ W.heap.size ∧ ∀ b, b < Z.heap.size → ¬ S b → W.heap[b]? = Z.heap[b]?
theorem KeepsP.refl (Z : World) (S : Nat → Prop) : KeepsP Z S Z := ⟨Nat.le_refl _, fun _ _ _ => rfl⟩
theorem KeepsP.grew (Z : World) (S : Nat → Prop) (W W' : World) (h : KeepsP Z S W) (g : Grew W W') : KeepsP Z S W' := ⟨Nat.le_trans h.1 g.size, fun b hb hn => (g.heap (Nat.lt_of_lt_of_le hb h.1)).trans (h.2 b hb hn)⟩
theorem KeepsP.grown {Z W W' : World} {S : Nat → Prop} {r : Option Nat} (h : KeepsP Z S W) (g : W.grownBy W' r) (hr : ∀ k, r = some k → S k ∨ Z.heap.size ≤ k) : KeepsP Z S W' := ⟨Nat.le_trans h.1 g.size, fun b hb hn => (g.block b (Nat.lt_of_lt_of_le hb h.1) (fun e => by rcases hr b e.symm with h1 | h1; exact hn h1; omega)).trans (h.2 b hb hn)⟩
theorem KeepsP.setRow {Z W : World} {S : Nat → Prop} (h : KeepsP Z S W) (g : Nat) (cs : Array Value) (hg : S g ∨ Z.heap.size ≤ g) : KeepsP Z S (W.setRow g cs) := h.grown (Go.Proofs.Ytnhcamklammcdaa.grownBy_setRow W g cs) (fun k e => by cases e; exact hg)
theorem KeepsP.heap {Z W : World} {S : Nat → Prop} (h : KeepsP Z S W) {b : Nat} (hb : b < Z.heap.size) (hn : ¬ S b) : W.heap[b]? = Z.heap[b]? := h.2 b hb hn
theorem KeepsP.rowAt {Z W : World} {S : Nat → Prop} (h : KeepsP Z S W) {b : Nat} (hb : b < Z.heap.size) (hn : ¬ S b) : W.rowAt b = Z.rowAt b := rowAt_of_heap (h.2 b hb hn)
theorem KeepsP.rowFree {Z W : World} {S : Nat → Prop} (h : KeepsP Z S W) {b : Nat} (hb : b < Z.heap.size) (hn : ¬ S b) : W.rowFree b = Z.rowFree b := rowFree_of_heap (h.2 b hb hn)
theorem KeepsP.cell {Z W : World} {S : Nat → Prop} (h : KeepsP Z S W) {p : Addr} {u : Value} (hc : Z.cell? p = some u) (hn : ¬ S p.block) : W.cell? p = some u := (World.cell?_of_block (h.2 _ (World.block_lt_of_cell? _ p hc) hn)).trans hc
end Go
/- A list whose ends are turned round, step by step. No program in sight. -/
namespace Go.Proofs.Ytnhcamklammcdaa
set_option linter.unusedVariables false
set_option linter.unusedSimpArgs false
open Go.RowKit
/-- The first 'k', and the last 'k', turned round. -/
def revk (l : List Nat) (k : Nat) : List Nat := (List.range l.length).map fun i => if i < k ∨ l.length - 1 - k < i then l.getD (l.length - 1 - i) 0 else l.getD i 0
theorem revk_len (l : List Nat) (k : Nat) : (revk l k).length = l.length := by simp [revk]
theorem revk_get (l : List Nat) (k i : Nat) (h : i < l.length) : (revk l k).getD i 0 = if i < k ∨ l.length - 1 - k < i then l.getD (l.length - 1 - i) 0 else l.getD i 0 := by
  simp [revk, List.getD, h]
theorem getD_ext {a b : List Nat} (h : a.length = b.length) (h2 : ∀ i, i < a.length → a.getD i 0 = b.getD i 0) : a = b := by
  apply List.ext_getElem h
  intro i h3 h4
  have := h2 i h3
  simpa [List.getD, h3, h4] using this
theorem getD_set (l : List Nat) (i j x : Nat) (h : i < l.length) : (l.set j x).getD i 0 = if j = i then x else l.getD i 0 := by
  simp only [List.getD, List.getElem?_set]
  split
  · rename_i e; subst e; simp [h]
  · rfl
theorem revk_0 (l : List Nat) : revk l 0 = l := getD_ext (revk_len l 0) fun i h => by
  rw [revk_len] at h
  rw [revk_get l 0 i h, if_neg (by omega)]
theorem revk_step (l : List Nat) (k : Nat) (h : 2 * k + 1 < l.length) : ((revk l k).set k ((revk l k).getD (l.length - 1 - k) 0)).set (l.length - 1 - k) ((revk l k).getD k 0) = revk l (k + 1) := by
  have hl := revk_len l k
  have e1 : (revk l k).getD (l.length - 1 - k) 0 = l.getD (l.length - 1 - k) 0 := by rw [revk_get l k _ (by omega), if_neg (by omega)]
  have e2 : (revk l k).getD k 0 = l.getD k 0 := by rw [revk_get l k _ (by omega), if_neg (by omega)]
  rw [e1, e2]
  refine getD_ext (by simp [revk_len]) fun i hi => ?_
  rw [List.length_set, List.length_set, hl] at hi
  rw [getD_set _ _ _ _ (by rw [List.length_set, hl]; exact hi), getD_set _ _ _ _ (by rw [hl]; exact hi), revk_get l (k + 1) i hi, revk_get l k i hi]
  by_cases h1 : l.length - 1 - k = i
  · rw [if_pos h1, if_pos (show i < k + 1 ∨ l.length - 1 - (k + 1) < i by omega), show l.length - 1 - i = k by omega]
  · rw [if_neg h1]
    by_cases h2 : k = i
    · rw [if_pos h2, if_pos (show i < k + 1 ∨ l.length - 1 - (k + 1) < i by omega), h2]
    · rw [if_neg h2]
      by_cases h3 : i < k ∨ l.length - 1 - k < i
      · rw [if_pos h3, if_pos (show i < k + 1 ∨ l.length - 1 - (k + 1) < i by omega)]
      · rw [if_neg h3, if_neg (show ¬ (i < k + 1 ∨ l.length - 1 - (k + 1) < i) by omega)]
theorem revk_all (l : List Nat) (k : Nat) (h : l.length ≤ 2 * k + 1) (hk : 2 * k ≤ l.length) : revk l k = l.reverse := getD_ext (by simp [revk_len]) fun i hi => by
  rw [revk_len] at hi
  rw [revk_get l k i hi]
  have e : l.reverse.getD i 0 = l.getD (l.length - 1 - i) 0 := by simp [List.getD, List.getElem?_reverse hi]
  rw [e]
  split
  · rfl
  · congr 1; omega
end Go.Proofs.Ytnhcamklammcdaa
/- mmr's spans and steps in memory. -/
namespace Go.Proofs.Ytnhcamklammcdaa
set_option linter.unusedVariables false
set_option linter.unusedSimpArgs false
open Go.RowKit
set_option maxRecDepth 100000
/-- Some places of a list. -/
def sp (a b : Int) : Array Value := #[.int .i64 a, .int .i64 b]
/-- A step's cells. -/
def st (a b : Int) (l : Bool) : Array Value := #[.int .i64 a, .int .i64 b, .bool l]
structure Stp where
  o : Nat
  n : Nat
  l : Bool
def Stp.cs (s : Stp) : List Value := [.int .i64 s.o, .int .i64 s.n, .bool s.l]
theorem Stp.cs_len (s : Stp) : s.cs.length = 3 := rfl
theorem Stp.cs_one (s : Stp) : ∀ u ∈ s.cs, u.oneCell' = true := by
  intro u hu
  simp only [Stp.cs, List.mem_cons, List.not_mem_nil, or_false] at hu
  rcases hu with rfl | rfl | rfl <;> rfl
theorem Stp.cs_arr (s : Stp) : s.cs.toArray = st s.o s.n s.l := rfl
def stp0 : Stp := ⟨0, 0, false⟩
@[go_sem] theorem sp_size (a b : Int) : (sp a b).size = 2 := rfl
@[go_sem] theorem st_size (a b : Int) (l : Bool) : (st a b l).size = 3 := rfl
@[go_sem] theorem sp_0 (a b : Int) : (sp a b)[0]? = some (.int .i64 a) := rfl
@[go_sem] theorem sp_1 (a b : Int) : (sp a b)[1]? = some (.int .i64 b) := rfl
@[go_sem] theorem st_0 (a b : Int) (l : Bool) : (st a b l)[0]? = some (.int .i64 a) := rfl
@[go_sem] theorem st_1 (a b : Int) (l : Bool) : (st a b l)[1]? = some (.int .i64 b) := rfl
@[go_sem] theorem st_2 (a b : Int) (l : Bool) : (st a b l)[2]? = some (.bool l) := rfl
theorem sp_one (a b : Int) : (sp a b).all (·.oneCell') = true := by simp [sp, Value.oneCell']
theorem st_one (a b : Int) (l : Bool) : (st a b l).all (·.oneCell') = true := by simp [st, Value.oneCell']
theorem rowType_span : Try.prog.rowType 56 2 = true := by kernel_rfl
theorem rowType_step : Try.prog.rowType 58 3 = true := by kernel_rfl
theorem zero_span : (Try.prog.info? 56).map (·.zero) = some (some (.agg (sp 0 0))) := by kernel_rfl
theorem zero_step : (Try.prog.info? 58).map (·.zero) = some (some (.agg (st 0 0 false))) := by kernel_rfl
theorem size_step : (Try.prog.info? 58).map (·.size) = some 3 := by kernel_rfl
theorem under_step : Try.prog.underlying 58 = some (.struct (Try.prog.fieldsOf 58)) := by kernel_rfl
theorem under_steps : Try.prog.underlying 53 = some (.slice 58) := by kernel_rfl
theorem info_step : ∃ i, Try.prog.info? 58 = some i ∧ i.zero = some (.agg (st 0 0 false)) ∧ i.size = 3 ∧ i.bytes = 24 := by
  refine ⟨_, rfl, ?_, ?_, ?_⟩ <;> kernel_rfl
def spBuild (x y : Value) : Sem Next := do let v ← Instr.build 56 #[(0, x), (1, y)]; pure (.value v)
def stBuild (x y : Value) : Sem Next := do let v ← Instr.build 58 #[(0, x), (1, y)]; pure (.value v)
def stlBuild (x : Value) : Sem Next := do let v ← Instr.buildSlice 53 1 #[(0, x)]; pure (.value v)
section
variable (ρ : Operand → Value) (d : Option Tmp) (x y : Operand) (t : TypeId) (p : String) (a : Array Edge) (g : Option (Nat × Bool)) (w : World)
@[go_sem ↓] theorem ex_load_span : execOp ρ ⟨d, .load 56 x, t, p, a, g⟩ = rowLoad 56 (ρ x) := rfl
@[go_sem ↓] theorem ex_store_span : execOp ρ ⟨d, .store 56 x y, t, p, a, g⟩ = rowStore 56 (ρ x) (ρ y) := rfl
@[go_sem ↓] theorem ex_alloc_span : execOp ρ ⟨d, .alloc 56, t, p, a, g⟩ = rowAlloc 56 := rfl
@[go_sem ↓] theorem ex_load_step : execOp ρ ⟨d, .load 58 x, t, p, a, g⟩ = rowLoad 58 (ρ x) := rfl
@[go_sem ↓] theorem ex_store_step : execOp ρ ⟨d, .store 58 x y, t, p, a, g⟩ = rowStore 58 (ρ x) (ρ y) := rfl
@[go_sem ↓] theorem ex_alloc_step : execOp ρ ⟨d, .alloc 58, t, p, a, g⟩ = rowAlloc 58 := rfl
@[go_sem ↓] theorem ex_spBuild : execOp ρ ⟨d, .build 56 #[(0, x), (1, y)], t, p, a, g⟩ = spBuild (ρ x) (ρ y) := by simp [execOp, spBuild]
@[go_sem ↓] theorem ex_stBuild : execOp ρ ⟨d, .build 58 #[(0, x), (1, y)], t, p, a, g⟩ = stBuild (ρ x) (ρ y) := by simp [execOp, stBuild]
@[go_sem ↓] theorem ex_stlBuild : execOp ρ ⟨d, .buildSlice 53 1 #[(0, x)], t, p, a, g⟩ = stlBuild (ρ x) := by simp [execOp, stlBuild]
end
@[go_sem] theorem load_span (w : World) (g : Nat) (h : (w.rowAt g).size = 2) : (rowLoad 56 (.pointer (some ⟨g, 0, none⟩))).run Try.prog w = .ok (.value (.agg (w.rowAt g))) w := run_rowLoad w (n := 1) rowType_span h
@[go_sem] theorem store_span (w : World) (g : Nat) (a b : Int) (h : (w.rowAt g).size = 2) (hf : w.rowFree g = true) : (rowStore 56 (.pointer (some ⟨g, 0, none⟩)) (.agg (sp a b))).run Try.prog w = .ok .skip (w.setRow g (sp a b)) := run_rowStore w (n := 2) rowType_span hf h rfl (sp_one a b)
@[go_sem] theorem alloc_span (w : World) : (rowAlloc 56).run Try.prog w = .ok (.value (.pointer (some ⟨w.heap.size, 0, none⟩))) (w.alloc (.cells (sp 0 0) 56)) := run_rowAlloc w zero_span
@[go_sem] theorem load_step (w : World) (g : Nat) (h : (w.rowAt g).size = 3) : (rowLoad 58 (.pointer (some ⟨g, 0, none⟩))).run Try.prog w = .ok (.value (.agg (w.rowAt g))) w := run_rowLoad w (n := 2) rowType_step h
@[go_sem] theorem store_step (w : World) (g : Nat) (a b : Int) (l : Bool) (h : (w.rowAt g).size = 3) (hf : w.rowFree g = true) : (rowStore 58 (.pointer (some ⟨g, 0, none⟩)) (.agg (st a b l))).run Try.prog w = .ok .skip (w.setRow g (st a b l)) := run_rowStore w (n := 3) rowType_step hf h rfl (st_one a b l)
@[go_sem] theorem alloc_step (w : World) : (rowAlloc 58).run Try.prog w = .ok (.value (.pointer (some ⟨w.heap.size, 0, none⟩))) (w.alloc (.cells (st 0 0 false) 58)) := run_rowAlloc w zero_step
@[go_sem] theorem run_spBuild (a b : Int) (w : World) : (spBuild (.int .i64 a) (.int .i64 b)).run Try.prog w = .ok (.value (.agg (sp a b))) w := by kernel_rfl
@[go_sem] theorem run_stBuild (a b : Int) (l : Bool) (w : World) : (stBuild (.agg (sp a b)) (.bool l)).run Try.prog w = .ok (.value (.agg (st a b l))) w := by kernel_rfl
@[go_sem] theorem run_stlBuild (a b : Int) (l : Bool) (w : World) : (stlBuild (.agg (st a b l))).run Try.prog w = .ok (.value (.slice (some ⟨w.heap.size, 0, none⟩) 1 1)) (w.alloc (.cells (st a b l) 58)) := by
  obtain ⟨i, hi, hz, hs, _⟩ := info_step
  unfold stlBuild
  rw [Sem.run_bind, run_buildSlice1 under_steps hi hz hs rfl rfl (by omega) (by omega)]
  rfl
theorem load_stepm {w : World} {b o : Nat} {x : Stp} (h : w.rangeAt b o x.cs) : (rowLoad 58 (.pointer (some ⟨b, o, none⟩))).run Try.prog w = .ok (.value (.agg (st x.o x.n x.l))) w := by
  unfold rowLoad
  rw [Sem.run_bind, run_loadAt_mid w b o 58 x.cs _ h under_step rfl (by rw [x.cs_len]; exact size_step)]
  rfl
theorem store_stepm {w : World} {g o : Nat} (x : Stp) (hf : w.rowFree g = true) (h : o + 3 ≤ (w.rowAt g).size) : (rowStore 58 (.pointer (some ⟨g, o, none⟩)) (.agg (st x.o x.n x.l))).run Try.prog w = .ok .skip (w.setRow g (putAt (w.rowAt g) o x.cs)) := by
  unfold rowStore
  rw [Sem.run_bind, run_storeAt_mid w g o 58 (st x.o x.n x.l) (there_row hf (by rw [st_size]; exact h)) (by rw [st_size]; exact size_step) (st_one _ _ _), setCells_row _ _ _ _ hf]
  rfl
end Go.Proofs.Ytnhcamklammcdaa
/- A store of an element into a row of the call's own. No program in sight. -/
namespace Go.Proofs.Ytnhcamklammcdaa
set_option linter.unusedVariables false
set_option linter.unusedSimpArgs false
open Go.RowKit
theorem take_putE {α : Type} (C y : List α) (o M : Nat) (h1 : o + y.length ≤ M) (h2 : M ≤ C.length) : (C.take o ++ y ++ C.drop (o + y.length)).take M = (C.take M).take o ++ y ++ (C.take M).drop (o + y.length) := by
  have hl : (C.take M).length = M := by rw [List.length_take]; omega
  have e0 : C = C.take M ++ C.drop M := (List.take_append_drop M C).symm
  have e1 : C.take o = (C.take M).take o := by rw [List.take_take, Nat.min_eq_left (by omega)]
  have e2 : C.drop (o + y.length) = (C.take M).drop (o + y.length) ++ C.drop M := by
    conv => lhs; rw [e0]
    rw [List.drop_append_of_le_length (by rw [hl]; exact h1)]
  rw [e1, e2, ← List.append_assoc]
  refine List.take_left' ?_
  simp only [List.length_append, List.length_take, List.length_drop]
  omega
@[simp, go_sem] theorem putAt_size : ∀ (vs : List Value) (o : Nat) (C : Array Value), (putAt C o vs).size = C.size
  | [], _, _ => rfl
  | v :: r, o, C => by rw [putAt, putAt_size r]; simp
section
variable {α : Type} {k : Nat} {f : α → List Value}
theorem ownG_row {w : World} {base g n cap : Nat} {e : TypeId} {ls : List α} (h : OwnE k f w base e (.slice (some ⟨g, 0, none⟩) n cap) ls) :
    w.heap[g]? = some (.cells (w.rowAt g) e (0, 0)) ∧ w.rowFree g = true ∧ (w.rowAt g).size = cap * k ∧ n ≤ cap ∧ n = ls.length := by
  rcases h.2 with ⟨h', h0⟩ | ⟨g', cap', cur, h', hb, hg, hn', hm, hs, ht⟩
  · simp at h'
  · simp only [Value.slice.injEq, Option.some.injEq, Addr.mk.injEq, and_true, true_and] at h'
    obtain ⟨rfl, rfl, rfl⟩ := h'
    have hr : w.rowAt g = cur := by simp [World.rowAt, hg]
    refine ⟨by rw [hr]; exact hg, by simp [World.rowFree, hg], by rw [hr]; exact hs, hn', rfl⟩
theorem ownG_set (hf : ∀ x, (f x).length = k) {w : World} {base g n cap : Nat} {e : TypeId} {ls : List α} (h : OwnE k f w base e (.slice (some ⟨g, 0, none⟩) n cap) ls) (j : Nat) (hj : j < ls.length) (x : α) :
    OwnE k f (w.setRow g (putAt (w.rowAt g) (j * k) (f x))) base e (.slice (some ⟨g, 0, none⟩) n cap) (ls.set j x) := by
  rcases h.2 with ⟨h', h0⟩ | ⟨g', cap', cur, h', hb, hg, hn', hm, hs, ht⟩
  · simp at h'
  · simp only [Value.slice.injEq, Option.some.injEq, Addr.mk.injEq, and_true, true_and] at h'
    obtain ⟨rfl, rfl, rfl⟩ := h'
    have hr : w.rowAt g = cur := by simp [World.rowAt, hg]
    have hxl := hf x
    have hcur : cur.toList.length = cap * k := by simpa using hs
    have hjc : j * k + k ≤ cap * k := by rw [← Nat.succ_mul]; exact Nat.mul_le_mul_right _ (by omega)
    have hjl : j * k + k ≤ ls.length * k := by rw [← Nat.succ_mul]; exact Nat.mul_le_mul_right _ (by omega)
    have hpl := putAt_list (f x) (j * k) cur (by rw [hxl]; simpa [hs] using hjc)
    refine ⟨by rw [flat_len hf], .inr ⟨g, cap, _, by rw [List.length_set], hb, by rw [hr]; exact setRow_heap w g _ _ _ (0, 0) hg, by rw [List.length_set]; exact hn', hm, ?_, ?_⟩⟩
    · have := congrArg List.length hpl
      simp only [List.length_append, List.length_take, List.length_drop, hxl, hcur] at this
      have h2 : (putAt cur (j * k) (f x)).size = (putAt cur (j * k) (f x)).toList.length := rfl
      rw [h2, this]
      omega
    · rw [hpl, List.length_set, take_putE cur.toList (f x) (j * k) (ls.length * k) (by rw [hxl]; exact hjl) (by rw [hcur]; exact Nat.mul_le_mul_right _ hn'), ht, flat_set hf ls j x hj, hxl]
end
end Go.Proofs.Ytnhcamklammcdaa
/- slices.Reverse of steps. -/
namespace Go.Proofs.Ytnhcamklammcdaa
set_option linter.unusedVariables false
set_option linter.unusedSimpArgs false
open Go.RowKit
set_option maxRecDepth 100000
def revS (l : List Stp) (k : Nat) : List Stp := (revk (List.range l.length) k).map fun i => l.getD i stp0
theorem revS_len (l : List Stp) (k : Nat) : (revS l k).length = l.length := by simp [revS, revk_len]
theorem range_getD {α : Type} (l : List α) (d : α) : (List.range l.length).map (fun i => l.getD i d) = l := by
  apply List.ext_getElem (by simp)
  intro i h1 h2
  simp [List.getD, h2]
theorem revS_0 (l : List Stp) : revS l 0 = l := by unfold revS; rw [revk_0, range_getD]
theorem revS_all (l : List Stp) (k : Nat) (h : l.length ≤ 2 * k + 1) (hk : 2 * k ≤ l.length) : revS l k = l.reverse := by
  unfold revS
  rw [revk_all _ k (by simpa using h) (by simpa using hk), List.map_reverse, range_getD]
theorem revS_step (l : List Stp) (k : Nat) (h : 2 * k + 1 < l.length) (x y : Stp) (hx : (revS l k)[k]? = some x) (hy : (revS l k)[l.length - 1 - k]? = some y) : ((revS l k).set k y).set (l.length - 1 - k) x = revS l (k + 1) := by
  have hs := revk_step (List.range l.length) k (by simpa using h)
  rw [List.length_range] at hs
  have hl : (revk (List.range l.length) k).length = l.length := by rw [revk_len, List.length_range]
  have ex : l.getD ((revk (List.range l.length) k).getD k 0) stp0 = x := by
    have h1 : k < (revk (List.range l.length) k).length := by omega
    unfold revS at hx
    rw [List.getElem?_map, List.getElem?_eq_getElem h1, Option.map_some, Option.some.injEq] at hx
    rw [← hx]; simp [List.getD, List.getElem?_eq_getElem h1]
  have ey : l.getD ((revk (List.range l.length) k).getD (l.length - 1 - k) 0) stp0 = y := by
    have h1 : l.length - 1 - k < (revk (List.range l.length) k).length := by omega
    unfold revS at hy
    rw [List.getElem?_map, List.getElem?_eq_getElem h1, Option.map_some, Option.some.injEq] at hy
    rw [← hy]; simp [List.getD, List.getElem?_eq_getElem h1]
  have h2 := congrArg (List.map fun i => l.getD i stp0) hs
  rw [List.map_set, List.map_set, ex, ey] at h2
  exact h2
set_option maxHeartbeats 3200000 in
theorem reverseS_w (l : List Stp) (v : Value) (w0 w : World) (hl : l.length ≤ 1000000) (hg : Grew w0 w) (ho : OwnE 3 Stp.cs w w0.heap.size 58 v l) :
    Calls Try.prog 51 #[v] w fun e w' => (∃ u, e = .returned u) ∧ OwnE 3 Stp.cs w' w0.heap.size 58 v l.reverse ∧ Grew w0 w' := by
  rcases ho.form with ⟨rfl, rfl⟩ | ⟨g, c, rfl, hgb, hgs, hnc⟩
  · have HO := Lib.hid ho
    have HG := Lib.hid hg
    clear ho hg
    go_enter Try.func51, Try.ntmps51
    go_wp2
    go_loopw [2, 3] (fun n m wr => n = .int .i64 0 ∧ m = .int .i64 (-1) ∧ wr = w) (fun _ _ _ => 0)
    case atStart => exact ⟨rfl, rfl, rfl⟩
    case round =>
      obtain ⟨rfl, rfl, rfl⟩ := hrel
      go_wp2
      go_end0
      exact ⟨⟨_, rfl⟩, HO.out, HG.out⟩
  · have HO := Lib.hid ho
    have HG := Lib.hid hg
    clear ho hg hgs
    obtain ⟨N, hN⟩ : ∃ N, l.length = N := ⟨_, rfl⟩
    have HN := Lib.hid hN
    rw [hN] at HO hnc hl ⊢
    clear hN
    go_enter Try.func51, Try.ntmps51
    go_wp2
    go_loopw [2, 3] (fun n m wr => ∃ (k : Nat) (j : Int), (k : Int) + j = (N : Int) - 1 ∧ 2 * k ≤ N ∧ n = .int .i64 k ∧ m = .int .i64 j ∧ OwnE 3 Stp.cs wr w0.heap.size 58 (.slice (some ⟨g, 0, none⟩) N c) (revS l k) ∧ Grew w0 wr) (fun n _ _ => N - (intOf n).toNat)
    case atStart => exact ⟨0, (N : Int) - 1, by omega, by omega, rfl, by go_num, by rw [revS_0]; exact HO.out, HG.out⟩
    case round =>
      obtain ⟨k, j, hkj, h2k, rfl, rfl, ho, hg⟩ := hrel
      have HO := Lib.hid ho
      have HG := Lib.hid hg
      have hrl := revS_len l k
      rw [HN.out] at hrl
      obtain ⟨hh, hf, hs, _, _⟩ := ownG_row HO.out
      have hgs : g < wr.heap.size := (Array.getElem?_eq_some_iff.1 hh).1
      clear ho hg hh
      by_cases hn : (k : Int) < j
      · obtain ⟨j, rfl⟩ : ∃ m : Nat, j = (m : Int) := ⟨j.toNat, by omega⟩
        have hlt : (k : Int) < (j : Int) := by omega
        have hkN : (k : Int) < (N : Int) := by omega
        have hjN : (j : Int) < (N : Int) := by omega
        obtain ⟨x, hx⟩ : ∃ x, (revS l k)[k]? = some x := ⟨_, List.getElem?_eq_getElem (by omega)⟩
        obtain ⟨y, hy⟩ : ∃ y, (revS l k)[j]? = some y := ⟨_, List.getElem?_eq_getElem (by omega)⟩
        have hst := revS_step l k (by rw [HN.out]; omega) x y hx (by rw [HN.out, show N - 1 - k = j by omega]; exact hy)
        rw [HN.out, show N - 1 - k = j by omega] at hst
        have l1 := load_stepm (rangeAt_grew (OwnE.range Stp.cs_len HO.out k x hx) (show Grew wr wr.drew from (by repeat (first | with_reducible exact Grew.refl _ | with_reducible apply Grew.alloc | with_reducible apply Grew.grow | with_reducible apply Grew.drew | with_reducible apply Grew.drewN))))
        have l2 := load_stepm (rangeAt_grew (OwnE.range Stp.cs_len HO.out j y hy) (show Grew wr wr.drew from (by repeat (first | with_reducible exact Grew.refl _ | with_reducible apply Grew.alloc | with_reducible apply Grew.grow | with_reducible apply Grew.drew | with_reducible apply Grew.drewN))))
        have s1 : ∀ W : World, W.rowFree g = true → (W.rowAt g).size = c * 3 → (rowStore 58 (.pointer (some ⟨g, k * 3, none⟩)) (.agg (st y.o y.n y.l))).run Try.prog W = .ok .skip (W.setRow g (putAt (W.rowAt g) (k * 3) y.cs)) := fun W h1 h2 => store_stepm y h1 (by rw [h2]; omega)
        have s2 : ∀ W : World, W.rowFree g = true → (W.rowAt g).size = c * 3 → (rowStore 58 (.pointer (some ⟨g, j * 3, none⟩)) (.agg (st x.o x.n x.l))).run Try.prog W = .ok .skip (W.setRow g (putAt (W.rowAt g) (j * 3) x.cs)) := fun W h1 h2 => store_stepm x h1 (by rw [h2]; omega)
        have HST := Lib.hid hst
        have HKJ := Lib.hid (And.intro hkj (And.intro h2k (And.intro hrl (And.intro hf hs))))
        have hne : ¬ k = j := by omega
        have hj1 : 1 ≤ (j : Int) := by omega
        clear hst hx hy hkj h2k hrl hn
        go_wp2
        go_region
        all_goals
          go_wp2
          obtain ⟨hkj, h2k, hrl, hf, hs⟩ := HKJ.out
          have t1 := ownG_set Stp.cs_len HO.out k (by rw [hrl]; omega) y
          have t2 := ownG_set Stp.cs_len t1 j (by rw [List.length_set, hrl]; omega) x
          rw [rowAt_setRow_free _ _ _ hf, HST.out] at t2
          exact ⟨⟨k + 1, (j : Int) - 1, by omega, by omega, by go_num, rfl, t2.grew (Grew.refl _).drew, (Grew.setRow_new (Grew.setRow_new HG.out _ _ hgb) _ _ hgb).drew⟩, by simp only [intOf]; omega⟩
      · have e : revS l k = l.reverse := revS_all l k (by rw [HN.out]; omega) (by rw [HN.out]; exact h2k)
        rw [e] at HO
        clear hkj h2k
        go_wp2
        go_end0
        exact ⟨⟨_, rfl⟩, by have := HO.out; rwa [← HN.out] at this, HG.out⟩
end Go.Proofs.Ytnhcamklammcdaa
/- The document's Sides. -/
namespace Go.Proofs.Ytnhcamklammcdaa
set_option linter.unusedVariables false
set_option linter.unusedSimpArgs false
open Go.RowKit
/-- The cells of sides, as the document has them. -/
def bvs (l : List Nat) : List Value := l.map fun (c : Nat) => Value.bool (c == 0)
theorem bvs_len (l : List Nat) : (bvs l).length = l.length := by simp [bvs]
theorem bvs_append (l m : List Nat) : bvs (l ++ m) = bvs l ++ bvs m := by simp [bvs]
theorem bvs_one (l : List Nat) : ∀ x ∈ bvs l, x.oneCell' = true := by
  intro x hx
  obtain ⟨c, _, rfl⟩ := List.mem_map.1 hx
  rfl
theorem under_bos : Try.prog.underlying 60 = some (.slice 4) := by kernel_rfl
set_option maxRecDepth 100000 in
theorem info_bo : ∃ i, Try.prog.info? 4 = some i ∧ i.zero = some (.bool false) ∧ i.size = 1 ∧ i.bytes = 1 := by
  refine ⟨_, rfl, ?_, ?_, ?_⟩ <;> kernel_rfl
set_option maxRecDepth 100000 in
set_option maxHeartbeats 3200000 in
theorem rsides_w : ∀ (f n i : Nat), n ≤ f → 1 ≤ n → n ≤ 1000000 → i < n → ∀ w : World,
    Calls Try.prog 34 #[.int .i64 n, .int .i64 i] w fun e w' => ∃ v, e = .returned v ∧ OwnR w' w.heap.size 4 v (bvs (side n i).reverse) ∧ Grew w w'
  | 0, n, i, hf, h1, _, _, _ => by omega
  | f + 1, n, i, hf, h1, hn, hi, w => by
    obtain ⟨ii, hif, hz, hsz, hby⟩ := info_bo
    by_cases h2 : n = 1
    · subst h2
      clear hi hif hz hsz hby
      go_enter Try.func34, Try.ntmps34
      go_wp2
      go_ret
      rw [side_one 1 i (by omega)]
      exact ⟨_, rfl, OwnR.nil _ _ _, Grew.refl _⟩
    · have hne : ¬ (n : Int) = 1 := by omega
      have hsd := half_sand n (by omega) (by omega)
      have hp := half_pos n
      have hw := fun w => rhalf_w n (by omega) (by omega) w
      have hl := side_left n i (by omega) (by omega)
      have hr := side_right n i (by omega) (by omega)
      have ih := rsides_w f
      obtain ⟨k, hk⟩ : ∃ k, halfN n = k := ⟨_, rfl⟩
      rw [hk] at hsd hp hw hl hr
      have HW := Lib.hid hw
      by_cases hik : i < k
      · have hik' : (i : Int) < (k : Int) := by omega
        have HL := Lib.hid (hl hik)
        have hln := side_len k i (by omega) (by omega)
        have C1 := Lib.hid (fun w => ih k i (by omega) (by omega) (by omega) hik w)
        have hb : (bvs (side k i).reverse).length + 1 ≤ 1000001 := by rw [bvs_len, List.length_reverse]; omega
        clear hl hr hw hsd hp hk ih h2 hn h1 hf hi hln
        go_enter Try.func34, Try.ntmps34
        go_wp2_with (first | (go_at_call 47; refine (HW.out _).mono ?_; rintro e w' ⟨rfl, δ, rfl⟩) | (go_at_call 34; refine (C1.out _).mono ?_; rintro e w' ⟨v, rfl, ho, hg⟩; have HO := Lib.hid ho; have HG := Lib.hid hg; clear ho hg) | (at_builtin; refine stop_of ?_))
        unfold Stop
        have HOK : OwnR w' w.heap.size 4 v (bvs (side k i).reverse) := HO.out.base (Grew.size ⟨δ, rfl⟩)
        have hgw : Grew w w' := (show Grew w (w.grow δ) from ⟨δ, rfl⟩).trans HG.out
        refine wpList_append1 rfl _ _ _ rfl _ ii _ 1 under_bos hif hz hsz hby rfl w w' v _ rfl rfl _ hgw (by exact HOK) rfl (by simp only [maxLen]; omega) (by omega) ?_
        intro v2 w3 ho2 hg2
        have he : bvs (side n i).reverse = bvs (side k i).reverse ++ [.bool true] := by rw [HL.out, List.reverse_cons, bvs_append]; rfl
        rw [← he] at ho2
        go_wp2
        go_ret
        exact ⟨_, rfl, ho2, hg2⟩
      · have hik' : ¬ (i : Int) < (k : Int) := by omega
        have HL := Lib.hid (hr hik)
        have hln := side_len (n - k) (i - k) (by omega) (by omega)
        have e1 : (n : Int) - (k : Int) = ((n - k : Nat) : Int) := by omega
        have e2 : (i : Int) - (k : Int) = ((i - k : Nat) : Int) := by omega
        have C1 := Lib.hid (fun w => ih (n - k) (i - k) (by omega) (by omega) (by omega) (by omega) w)
        have hb : (bvs (side (n - k) (i - k)).reverse).length + 1 ≤ 1000001 := by rw [bvs_len, List.length_reverse]; omega
        obtain ⟨m, hm⟩ : ∃ m, n - k = m := ⟨_, rfl⟩
        obtain ⟨j, hj⟩ : ∃ j, i - k = j := ⟨_, rfl⟩
        rw [hm] at HL e1 C1 hb
        rw [hj] at HL e2 C1 hb
        have hnI : (n : Int) ≤ 1000000 := by omega
        have hk1 : 1 ≤ (k : Int) := by omega
        have hkn : (k : Int) ≤ (n : Int) := by omega
        have hin : (i : Int) ≤ (n : Int) := by omega
        clear hl hr hw hsd hp hk ih h2 hn h1 hf hi hln hm hj
        go_enter Try.func34, Try.ntmps34
        go_wp2_with (first | (go_at_call 47; refine (HW.out _).mono ?_; rintro e w' ⟨rfl, δ, rfl⟩) | (go_at_call 34; refine (C1.out _).mono ?_; rintro e w' ⟨v, rfl, ho, hg⟩; have HO := Lib.hid ho; have HG := Lib.hid hg; clear ho hg) | (at_builtin; refine stop_of ?_))
        unfold Stop
        have HOK : OwnR w' w.heap.size 4 v (bvs (side m j).reverse) := HO.out.base (Grew.size ⟨δ, rfl⟩)
        have hgw : Grew w w' := (show Grew w (w.grow δ) from ⟨δ, rfl⟩).trans HG.out
        refine wpList_append1 rfl _ _ _ rfl _ ii _ 1 under_bos hif hz hsz hby rfl w w' v _ rfl rfl _ hgw (by exact HOK) rfl (by simp only [maxLen]; omega) (by omega) ?_
        intro v2 w3 ho2 hg2
        have he : bvs (side n i).reverse = bvs (side m j).reverse ++ [.bool false] := by rw [HL.out, List.reverse_cons, bvs_append]; rfl
        rw [← he] at ho2
        go_wp2
        go_ret
        exact ⟨_, rfl, ho2, hg2⟩
end Go.Proofs.Ytnhcamklammcdaa
