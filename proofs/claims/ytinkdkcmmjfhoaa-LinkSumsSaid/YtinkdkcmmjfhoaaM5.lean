/- What the statements of this chapter rest on, part 5. Conditions: none. -/
import Derived.Test.YtinkdkcmmjfhoaaM4
/- The document's Root. -/
namespace Go.Proofs.Ytinkdkcmmjfhoaa
set_option linter.unusedVariables false
set_option linter.unusedSimpArgs false
open Go.RowKit
theorem rsum2_w (X : World) (g : Nat) (hg : g = X.heap.size) : Calls Try.prog 52 #[.slice (some ⟨g, 0, none⟩) 1 1] (X.alloc (.cells #[.int .u8 2] 5)) fun e w' => e = .returned (.agg (iv (Idb.sum [2]).l)) ∧ Grew (X.alloc (.cells #[.int .u8 2] 5)) w' := by
  subst hg
  exact rsum_w [2] _ _ (by decide) (by decide) (shows_one X (.int .u8 2) 5 1)
set_option maxRecDepth 100000 in
theorem rroot_nil' (v : Value) (w : World) (hv : ShowsI w v []) : Calls Try.prog 33 #[v] w fun e w' => e = .returned (.agg (iv (root []).l)) ∧ Grew w w' := by
  obtain ⟨p, c, rfl⟩ := showsI_form hv
  clear hv
  have hsl := sum_len [2]
  simp only [List.length_nil]
  go_enter Try.func33, Try.ntmps33
  go_wp2_with (go_at_call 52; refine stop_of ?_)
  unfold Stop
  refine (rsum2_w _ _ (by simp)).mono ?_
  rintro e w' ⟨rfl, δ, rfl⟩
  go_wp2
  exact bodyPost_ret (id_res rfl _ rfl (x := Idb.sum [2]) (by simp [go_sem])) rfl ⟨by rw [root_nil], (by repeat (first | with_reducible exact Grew.refl _ | with_reducible apply Grew.alloc | with_reducible apply Grew.grow | with_reducible apply Grew.drew | with_reducible apply Grew.drewN))⟩
set_option maxRecDepth 100000 in
set_option maxHeartbeats 3200000 in
theorem rroot_w : ∀ (f : Nat) (ls : List Idb) (v : Value) (w : World), ls.length ≤ f → ls.length ≤ 1000000 → ShowsI w v ls → Calls Try.prog 33 #[v] w fun e w' => e = .returned (.agg (iv (root ls).l)) ∧ Grew w w' := by
  intro f
  induction f with
  | zero =>
    intro ls v w hf _ hv
    obtain rfl : ls = [] := List.length_eq_zero_iff.1 (by omega)
    exact rroot_nil' v w hv
  | succ f ih =>
    intro ls v w hf hl hv
    obtain ⟨p, c, rfl⟩ := showsI_form hv
    rcases Nat.lt_or_ge ls.length 2 with h2 | h2
    · rcases Nat.lt_or_ge ls.length 1 with h1 | h1
      · obtain rfl : ls = [] := List.length_eq_zero_iff.1 (by omega)
        exact (rroot_nil' _ w hv)
      · obtain ⟨x, rfl⟩ : ∃ x, ls = [x] := by
          match ls, h1, h2 with
          | [x], _, _ => exact ⟨x, rfl⟩
        obtain ⟨b, o, rfl, _, hc, hb, hat⟩ := showsI_some hv (by simp)
        have hld := load_idm (World.rangeAt.grew (hat 0 x rfl) (show Grew w (w.alloc (.cells (iv id0) 24)) from (by repeat (first | with_reducible exact Grew.refl _ | with_reducible apply Grew.alloc | with_reducible apply Grew.grow | with_reducible apply Grew.drew | with_reducible apply Grew.drewN))))
        rw [Nat.zero_mul, Nat.add_zero] at hld
        have hx := x.len
        simp only [List.length_cons, List.length_nil, Nat.zero_add] at *
        go_enter Try.func33, Try.ntmps33
        go_wp2_with fail
        exact bodyPost_ret (id_res rfl _ rfl (x := x) (by simp [go_sem])) rfl ⟨by rw [root_one], (by repeat (first | with_reducible exact Grew.refl _ | with_reducible apply Grew.alloc | with_reducible apply Grew.grow | with_reducible apply Grew.drew | with_reducible apply Grew.drewN))⟩
    · obtain ⟨b, o, rfl, _, hc, hb, hat⟩ := showsI_some hv (by omega)
      have hs := half_sand ls.length h2 (by omega)
      have hp := half_pos ls.length
      obtain ⟨k, hk⟩ : ∃ k, halfN ls.length = k := ⟨_, rfl⟩
      have hcut := root_cut ls h2 (by omega)
      rw [hk] at hs hp hcut
      have z1 := ih (ls.take k) (.slice (some ⟨b, o, none⟩) k c)
      have hl1 : (ls.take k).length = k := by rw [List.length_take]; omega
      have hl2 : (ls.drop k).length = ls.length - k := by rw [List.length_drop]
      have p1 : ShowsI w (.slice (some ⟨b, o, none⟩) k c) (ls.take k) := by
        have := showsI_part (o := o) hb hat 0 k c (by omega) (by omega)
        simpa using this
      have p2 : ShowsI w (.slice (some ⟨b, o + k * 32, none⟩) (ls.length - k) (c - k)) (ls.drop k) := by
        have := showsI_part (o := o) hb hat k (ls.length - k) (c - k) (by omega) (by omega)
        rwa [List.take_of_length_le (by omega)] at this
      have c1 : ∀ W, Grew w W → Calls Try.prog 33 #[.slice (some ⟨b, o, none⟩) k c] W fun e w' => e = .returned (.agg (iv (root (ls.take k)).l)) ∧ Grew W w' := fun W g => ih (ls.take k) _ W (by omega) (by omega) (p1.grew g)
      have c2 : ∀ W, Grew w W → Calls Try.prog 33 #[.slice (some ⟨b, o + k * 32, none⟩) (ls.length - k) (c - k)] W fun e w' => e = .returned (.agg (iv (root (ls.drop k)).l)) ∧ Grew W w' := fun W g => ih (ls.drop k) _ W (by omega) (by omega) (p2.grew g)
      have c3 : ∀ W : World, Calls Try.prog 53 #[.int .i64 ls.length] W fun e w' => e = .returned (.int .i64 (k : Nat)) ∧ Grew W w' := fun W => by rw [← hk]; exact rhalf_w ls.length h2 (by omega) W
      obtain ⟨N, hN⟩ : ∃ N, ls.length = N := ⟨_, rfl⟩
      rw [hN] at c2 c3 hs hc h2 ⊢
      have C1 := Lib.hid c1
      have C2 := Lib.hid c2
      have C3 := Lib.hid c3
      have HC := Lib.hid hcut
      have hx1 := (root (ls.take k)).len
      have hx2 := (root (ls.drop k)).len
      obtain ⟨ra, hA⟩ : ∃ A, root (ls.take k) = A := ⟨_, rfl⟩
      obtain ⟨rb, hB⟩ : ∃ B, root (ls.drop k) = B := ⟨_, rfl⟩
      rw [hA] at C1 HC hx1
      rw [hB] at C2 HC hx2
      have n0 : ¬ N = 0 := by omega
      have n1 : ¬ N = 1 := by omega
      have k1 : (k : Int) ≤ (c : Int) := by omega
      have k2 : (k : Int) ≤ (N : Int) := by omega
      have k3 : ¬ c = k := by omega
      clear z1 p1 p2 c1 c2 c3 hcut hv hat ih hl1 hl2 hA hB hk hN hf hl hs hp h2
      go_enter Try.func33, Try.ntmps33
      go_wp2_with (go_at_call 53; refine (C3.out _).mono ?_; rintro e w' ⟨rfl, δ, rfl⟩)
      refine wp_region_flowX [9] (by kernel_rfl) ?_
      intro δf
      apply wpFlowX_quiets [0,1,2,4,5,6] (by decide +kernel) (by decide +kernel) (by kernel_rfl) (by intro _ _ _ d _ h; cases d <;> exact h) _
      · intro A hA δ'
        simp only [pickOps_cons, pickOps_nil, pick1_zero, pick1_succ]
        repeat (go_big_quiet_step ((fail)))
        exact wpQuiet_nil hA.out.symm
      apply wpFlowX_quiets [3] (by decide +kernel) (by decide +kernel) (by kernel_rfl) (by intro _ _ _ d _ h; cases d <;> exact h) _
      · intro A hA δ'
        simp only [pickOps_cons, pickOps_nil, pick1_zero, pick1_succ]
        repeat (go_big_quiet_step ((go_at_call 33; exact Calls.pure_of_g4 (C1.out _ (by repeat (first | with_reducible exact Grew.refl _ | with_reducible apply Grew.alloc | with_reducible apply Grew.grow | with_reducible apply Grew.drew | with_reducible apply Grew.drewN))))))
        exact wpQuiet_nil hA.out.symm
      apply wpFlowX_quiets [7] (by decide +kernel) (by decide +kernel) (by kernel_rfl) (by intro _ _ _ d _ h; cases d <;> exact h) _
      · intro A hA δ'
        simp only [pickOps_cons, pickOps_nil, pick1_zero, pick1_succ]
        repeat (go_big_quiet_step ((go_at_call 33; exact Calls.pure_of_g4 (C2.out _ (by repeat (first | with_reducible exact Grew.refl _ | with_reducible apply Grew.alloc | with_reducible apply Grew.grow | with_reducible apply Grew.drew | with_reducible apply Grew.drewN))))))
        exact wpQuiet_nil hA.out.symm
      apply wpFlowX_quiets [8] (by decide +kernel) (by decide +kernel) (by kernel_rfl) (by intro _ _ _ d _ h; cases d <;> exact h) _
      · intro A hA δ'
        simp only [pickOps_cons, pickOps_nil, pick1_zero, pick1_succ]
        repeat (go_big_quiet_step ((go_at_call 54; exact Calls.pure_of_g4 (rnode_w ra rb _))))
        exact wpQuiet_nil hA.out.symm
      refine wpFlowX_esc 9 (by decide +kernel) (by kernel_rfl) (by decide +kernel) (by decide +kernel) ?_
      simp only [pickOps_cons, pickOps_nil, pick1_zero, pick1_succ]
      intro δf
      go_wp2
      refine wpAny_end (by decide +kernel) (by kernel_rfl) ?_
      go_wp2
      exact bodyPost_ret (id_res rfl _ rfl (x := ra.node rb) (by simp [go_sem])) rfl ⟨by rw [HC.out], (by repeat (first | with_reducible exact Grew.refl _ | with_reducible apply Grew.alloc | with_reducible apply Grew.grow | with_reducible apply Grew.drew | with_reducible apply Grew.drewN))⟩
end Go.Proofs.Ytinkdkcmmjfhoaa
/- The document's path. -/
namespace Go.Proofs.Ytinkdkcmmjfhoaa
set_option linter.unusedVariables false
set_option linter.unusedSimpArgs false
open Go.RowKit
set_option maxRecDepth 100000 in
set_option maxHeartbeats 6400000 in
theorem rpath_w : ∀ (f : Nat) (ls : List Idb) (i : Nat) (v : Value) (w : World), ls.length ≤ f → 1 ≤ ls.length → ls.length ≤ 1000 → i < ls.length → ShowsI w v ls →
    Calls Try.prog 51 #[v, .int .i64 i] w fun e w' => ∃ v', e = .returned v' ∧ OwnE 32 Idb.cs w' w.heap.size 24 v' (path ls i) ∧ Grew w w' := by
  obtain ⟨ii, hif, hz, hsz, hby⟩ := info_id
  intro f
  induction f with
  | zero => intro ls i v w h1 h2; omega
  | succ f ih =>
    intro ls i v w hf h1 hl hi hv
    rcases Nat.lt_or_ge ls.length 2 with h2 | h2
    · obtain ⟨p, c, rfl⟩ := showsI_form hv
      have hl1 : ls.length = 1 := by omega
      rw [path_one ls i (by omega)]
      rw [hl1]
      clear hv ih
      go_enter Try.func51, Try.ntmps51
      go_wp2
      go_ret
      exact ⟨_, rfl, OwnE.nil _ _ _, (by repeat (first | with_reducible exact Grew.refl _ | with_reducible apply Grew.alloc | with_reducible apply Grew.grow | with_reducible apply Grew.drew | with_reducible apply Grew.drewN))⟩
    · obtain ⟨b, o, hvv, hat⟩ : ∃ b o, (∃ c, v = .slice (some ⟨b, o, none⟩) ls.length c ∧ ls.length ≤ c ∧ b < w.heap.size) ∧ ∀ j x, ls[j]? = some x → w.rangeAt b (o + j * 32) x.cs := by
        obtain ⟨p, c, rfl⟩ := showsI_form hv
        obtain ⟨b, o, rfl, _, hc, hb, hat⟩ := showsI_some hv (by omega)
        exact ⟨b, o, ⟨c, rfl, hc, hb⟩, hat⟩
      obtain ⟨c, rfl, hc, hb⟩ := hvv
      have hs := half_sand ls.length h2 (by omega)
      have hp := half_pos ls.length
      have pl := path_left ls i h2 (by omega)
      have pr := path_right ls i h2 (by omega)
      obtain ⟨k, hk⟩ : ∃ k, halfN ls.length = k := ⟨_, rfl⟩
      rw [hk] at hs hp pl pr
      have hl1 : (ls.take k).length = k := by rw [List.length_take]; omega
      have hl2 : (ls.drop k).length = ls.length - k := by rw [List.length_drop]
      have p1 : ShowsI w (.slice (some ⟨b, o, none⟩) k c) (ls.take k) := by
        have := showsI_part (o := o) hb hat 0 k c (by omega) (by omega)
        simpa using this
      have p2 : ShowsI w (.slice (some ⟨b, o + k * 32, none⟩) (ls.length - k) (c - k)) (ls.drop k) := by
        have := showsI_part (o := o) hb hat k (ls.length - k) (c - k) (by omega) (by omega)
        rwa [List.take_of_length_le (by omega)] at this
      have c3 : ∀ W : World, Calls Try.prog 53 #[.int .i64 ls.length] W fun e w' => e = .returned (.int .i64 (k : Nat)) ∧ Grew W w' := fun W => by rw [← hk]; exact rhalf_w ls.length h2 (by omega) W
      have r1 : ∀ W, Grew w W → Calls Try.prog 33 #[.slice (some ⟨b, o, none⟩) k c] W fun e w' => e = .returned (.agg (iv (root (ls.take k)).l)) ∧ Grew W w' := fun W g => rroot_w _ _ _ W (Nat.le_refl _) (by omega) (p1.grew g)
      have r2 : ∀ W, Grew w W → Calls Try.prog 33 #[.slice (some ⟨b, o + k * 32, none⟩) (ls.length - k) (c - k)] W fun e w' => e = .returned (.agg (iv (root (ls.drop k)).l)) ∧ Grew W w' := fun W g => rroot_w _ _ _ W (Nat.le_refl _) (by omega) (p2.grew g)
      have k3 : ¬ c = k := by omega
      have k1 : (k : Int) ≤ (c : Int) := by omega
      have hlk : k < ls.length := hs.2.1
      by_cases hik : i < k
      · have hik' : (i : Int) < (k : Int) := by omega
        have HP := Lib.hid (pl hik)
        have C1 := Lib.hid (fun W (g : Grew w W) => ih (ls.take k) i _ W (by omega) (by omega) (by omega) (by omega) (p1.grew g))
        have hpl : (path (ls.take k) i).length < k := by rw [path_len _ _ (by omega), hl1]; exact side_len k i (by omega) (by omega)
        have R1 := Lib.hid r2
        have C3 := Lib.hid c3
        have hdl : (path (ls.take k) i).length + 1 ≤ 20000 := by omega
        have hNI : (ls.length : Int) ≤ 1000 := by omega
        have hkN : (k : Int) ≤ (ls.length : Int) := by omega
        have hk0 : 1 ≤ (k : Int) := by omega
        have hxo := (root (ls.drop k)).len
        obtain ⟨x, hx⟩ : ∃ x, root (ls.drop k) = x := ⟨_, rfl⟩
        rw [hx] at HP R1 hxo
        have n1 : ¬ (ls.length : Int) = 1 := by omega
        clear ih hv r1 r2 c3 pl pr p1 p2 hat hx hl1 hl2 hk
        obtain ⟨N, hN⟩ : ∃ N, ls.length = N := ⟨_, rfl⟩
        simp only [hN] at C1 C3 R1 hNI hkN n1 hc ⊢
        clear hs hp h2 h1 hf hl hi hpl hik hlk
        go_enter Try.func51, Try.ntmps51
        go_wp2_with (go_at_call 53; refine (C3.out _).mono ?_; rintro e w' ⟨rfl, δ, rfl⟩)
        refine wp_region_flowX [10,11] (by kernel_rfl) ?_
        intro δf
        apply wpFlowX_quiets [0,1,2,3,5,6,7] (by decide +kernel) (by decide +kernel) (by kernel_rfl) (by intro _ _ _ d _ h; cases d <;> exact h) _
        · intro A hA δ'
          simp only [pickOps_cons, pickOps_nil, pick1_zero, pick1_succ]
          repeat (go_big_quiet_step ((fail)))
          exact wpQuiet_nil hA.out.symm
        refine wpFlowX_one 4 (by decide +kernel) (by kernel_rfl) (by decide +kernel) (by decide +kernel) ?_
        simp only [pickOps_cons, pickOps_nil, pick1_zero, pick1_succ]
        intro δf
        go_wp2_with ((go_at_call 51; refine (C1.out _ (by repeat (first | with_reducible exact Grew.refl _ | with_reducible apply Grew.alloc | with_reducible apply Grew.grow | with_reducible apply Grew.drew | with_reducible apply Grew.drewN))).mono ?_; rintro e W1 ⟨v1, rfl, ho, hg⟩))
        refine ⟨(by first | assumption | (simp only [grow_grow, Array.append_assoc]; assumption) | exact Grew.refl _ | (simp only [grow_grow, Array.append_assoc]; exact (by repeat (first | with_reducible exact Grew.refl _ | with_reducible apply Grew.alloc | with_reducible apply Grew.grow | with_reducible apply Grew.drew | with_reducible apply Grew.drewN))) | exact (by repeat (first | with_reducible exact Grew.refl _ | with_reducible apply Grew.alloc | with_reducible apply Grew.grow | with_reducible apply Grew.drew | with_reducible apply Grew.drewN))), ?_⟩
        have gw1 : Grew w W1 := Grew.trans ⟨_, rfl⟩ hg
        have ho1 := ho.base (Grew.size (a := w) ⟨_, rfl⟩)
        have HO1 := Lib.hid ho1
        have G1 := Lib.hid gw1
        have zB : w.heap.size ≤ W1.heap.size := gw1.size
        clear ho hg gw1 ho1
        apply wpFlowX_quiets [8] (by decide +kernel) (by decide +kernel) (by kernel_rfl) (by intro _ _ _ d _ h; cases d <;> exact h) _
        · intro A hA δ'
          simp only [pickOps_cons, pickOps_nil, pick1_zero, pick1_succ]
          repeat (go_big_quiet_step ((go_at_call 33; exact Calls.pure_of_g (R1.out _ (G1.out.trans (by repeat (first | with_reducible exact Grew.refl _ | with_reducible apply Grew.alloc | with_reducible apply Grew.grow | with_reducible apply Grew.drew | with_reducible apply Grew.drewN)))))))
          exact wpQuiet_nil hA.out.symm
        refine wpFlowX_one 9 (by decide +kernel) (by kernel_rfl) (by decide +kernel) (by decide +kernel) ?_
        simp only [pickOps_cons, pickOps_nil, pick1_zero, pick1_succ]
        intro δf
        go_wp2_with (fail)
        refine ⟨(by first | assumption | (simp only [grow_grow, Array.append_assoc]; assumption) | exact Grew.refl _ | (simp only [grow_grow, Array.append_assoc]; exact (by repeat (first | with_reducible exact Grew.refl _ | with_reducible apply Grew.alloc | with_reducible apply Grew.grow | with_reducible apply Grew.drew | with_reducible apply Grew.drewN))) | exact (by repeat (first | with_reducible exact Grew.refl _ | with_reducible apply Grew.alloc | with_reducible apply Grew.grow | with_reducible apply Grew.drew | with_reducible apply Grew.drewN))), ?_⟩
        refine wpFlowX_esc 10 (by decide +kernel) (by kernel_rfl) (by decide +kernel) (by decide +kernel) ?_
        simp only [pickOps_cons, pickOps_nil, pick1_zero, pick1_succ]
        intro δf
        refine wpList_abs ?_
        intro X hX
        have gX : Grew W1 X := by rw [hX]; exact (by repeat (first | with_reducible exact Grew.refl _ | with_reducible apply Grew.alloc | with_reducible apply Grew.grow | with_reducible apply Grew.drew | with_reducible apply Grew.drewN))
        refine wpList_appendE Idb.cs_len (by decide) rfl _ _ _ rfl _ ii _ 32 under_ids hif hz hsz hby (by exact (iv_size id0).trans id0_len) cs_one w X w.heap.size _ _ rfl rfl (path (ls.take k) i) [x] (G1.out.trans gX) (Nat.le_refl _) (Nat.le_trans zB gX.size) (by exact HO1.out.grew gX) (by rw [hX]; exact (showsE_one_g Idb.cs_len _ _ x _ _ (by omega)).grew ⟨_, rfl⟩) (by simp only [maxLen, List.length_cons, List.length_nil]; omega) (by simp only [List.length_cons, List.length_nil]; omega) (by simp) ?_
        intro v2 W2 ho2 hg2 _
        rw [← HP.out] at ho2
        have HG2 := Lib.hid hg2
        have HO2 := Lib.hid ho2
        clear ho2 hg2 hX gX
        refine wpList_nil_then ?_
        refine wpAny_one 11 (by decide +kernel) (by kernel_rfl) (by decide +kernel) ?_
        simp only [pickOps_cons, pickOps_nil, pick1_zero, pick1_succ]
        go_wp2_with (fail)
        refine wpAny_end (by decide +kernel) (by kernel_rfl) ?_
        go_wp2
        go_ret
        exact ⟨_, rfl, HO2.out, HG2.out⟩
      · have hik' : ¬ (i : Int) < (k : Int) := by omega
        have HP := Lib.hid (pr hik)
        have hij : (i : Int) - (k : Int) = ((i - k : Nat) : Int) := by omega
        have C1 := Lib.hid (fun W (g : Grew w W) => ih (ls.drop k) (i - k) _ W (by omega) (by omega) (by omega) (by omega) (p2.grew g))
        have hpl : (path (ls.drop k) (i - k)).length < ls.length := by rw [path_len _ _ (by omega), hl2]; have := side_len (ls.length - k) (i - k) (by omega) (by omega); omega
        have hiI : (i : Int) ≤ 1000 := by omega
        have hki : (k : Int) ≤ (i : Int) := by omega
        obtain ⟨j, hj⟩ : ∃ j, i - k = j := ⟨_, rfl⟩
        have hjI : (j : Int) ≤ 1000 := by omega
        rw [hj] at HP hij C1 hpl
        have R1 := Lib.hid r1
        have C3 := Lib.hid c3
        have hdl : (path (ls.drop k) j).length + 1 ≤ 20000 := by omega
        have hNI : (ls.length : Int) ≤ 1000 := by omega
        have hkN : (k : Int) ≤ (ls.length : Int) := by omega
        have hk0 : 1 ≤ (k : Int) := by omega
        have hxo := (root (ls.take k)).len
        obtain ⟨x, hx⟩ : ∃ x, root (ls.take k) = x := ⟨_, rfl⟩
        rw [hx] at HP R1 hxo
        have n1 : ¬ (ls.length : Int) = 1 := by omega
        clear ih hv r1 r2 c3 pl pr p1 p2 hat hx hl1 hl2 hk
        obtain ⟨N, hN⟩ : ∃ N, ls.length = N := ⟨_, rfl⟩
        simp only [hN] at C1 C3 R1 hNI hkN n1 hc ⊢
        clear hs hp h2 h1 hf hl hi hpl hik hlk
        go_enter Try.func51, Try.ntmps51
        go_wp2_with (go_at_call 53; refine (C3.out _).mono ?_; rintro e w' ⟨rfl, δ, rfl⟩)
        refine wp_region_flowX [12,13] (by kernel_rfl) ?_
        intro δf
        apply wpFlowX_quiets [0,1,2,3,4,5,7,8,9] (by decide +kernel) (by decide +kernel) (by kernel_rfl) (by intro _ _ _ d _ h; cases d <;> exact h) _
        · intro A hA δ'
          simp only [pickOps_cons, pickOps_nil, pick1_zero, pick1_succ]
          repeat (go_big_quiet_step ((fail)))
          exact wpQuiet_nil hA.out.symm
        refine wpFlowX_one 6 (by decide +kernel) (by kernel_rfl) (by decide +kernel) (by decide +kernel) ?_
        simp only [pickOps_cons, pickOps_nil, pick1_zero, pick1_succ]
        intro δf
        go_wp2_with ((go_at_call 51; refine (C1.out _ (by repeat (first | with_reducible exact Grew.refl _ | with_reducible apply Grew.alloc | with_reducible apply Grew.grow | with_reducible apply Grew.drew | with_reducible apply Grew.drewN))).mono ?_; rintro e W1 ⟨v1, rfl, ho, hg⟩))
        refine ⟨(by first | assumption | (simp only [grow_grow, Array.append_assoc]; assumption) | exact Grew.refl _ | (simp only [grow_grow, Array.append_assoc]; exact (by repeat (first | with_reducible exact Grew.refl _ | with_reducible apply Grew.alloc | with_reducible apply Grew.grow | with_reducible apply Grew.drew | with_reducible apply Grew.drewN))) | exact (by repeat (first | with_reducible exact Grew.refl _ | with_reducible apply Grew.alloc | with_reducible apply Grew.grow | with_reducible apply Grew.drew | with_reducible apply Grew.drewN))), ?_⟩
        have gw1 : Grew w W1 := Grew.trans ⟨_, rfl⟩ hg
        have ho1 := ho.base (Grew.size (a := w) ⟨_, rfl⟩)
        have HO1 := Lib.hid ho1
        have G1 := Lib.hid gw1
        have zB : w.heap.size ≤ W1.heap.size := gw1.size
        clear ho hg gw1 ho1
        apply wpFlowX_quiets [10] (by decide +kernel) (by decide +kernel) (by kernel_rfl) (by intro _ _ _ d _ h; cases d <;> exact h) _
        · intro A hA δ'
          simp only [pickOps_cons, pickOps_nil, pick1_zero, pick1_succ]
          repeat (go_big_quiet_step ((go_at_call 33; exact Calls.pure_of_g (R1.out _ (G1.out.trans (by repeat (first | with_reducible exact Grew.refl _ | with_reducible apply Grew.alloc | with_reducible apply Grew.grow | with_reducible apply Grew.drew | with_reducible apply Grew.drewN)))))))
          exact wpQuiet_nil hA.out.symm
        refine wpFlowX_one 11 (by decide +kernel) (by kernel_rfl) (by decide +kernel) (by decide +kernel) ?_
        simp only [pickOps_cons, pickOps_nil, pick1_zero, pick1_succ]
        intro δf
        go_wp2_with (fail)
        refine ⟨(by first | assumption | (simp only [grow_grow, Array.append_assoc]; assumption) | exact Grew.refl _ | (simp only [grow_grow, Array.append_assoc]; exact (by repeat (first | with_reducible exact Grew.refl _ | with_reducible apply Grew.alloc | with_reducible apply Grew.grow | with_reducible apply Grew.drew | with_reducible apply Grew.drewN))) | exact (by repeat (first | with_reducible exact Grew.refl _ | with_reducible apply Grew.alloc | with_reducible apply Grew.grow | with_reducible apply Grew.drew | with_reducible apply Grew.drewN))), ?_⟩
        refine wpFlowX_esc 12 (by decide +kernel) (by kernel_rfl) (by decide +kernel) (by decide +kernel) ?_
        simp only [pickOps_cons, pickOps_nil, pick1_zero, pick1_succ]
        intro δf
        refine wpList_abs ?_
        intro X hX
        have gX : Grew W1 X := by rw [hX]; exact (by repeat (first | with_reducible exact Grew.refl _ | with_reducible apply Grew.alloc | with_reducible apply Grew.grow | with_reducible apply Grew.drew | with_reducible apply Grew.drewN))
        refine wpList_appendE Idb.cs_len (by decide) rfl _ _ _ rfl _ ii _ 32 under_ids hif hz hsz hby (by exact (iv_size id0).trans id0_len) cs_one w X w.heap.size _ _ rfl rfl (path (ls.drop k) j) [x] (G1.out.trans gX) (Nat.le_refl _) (Nat.le_trans zB gX.size) (by exact HO1.out.grew gX) (by rw [hX]; exact (showsE_one_g Idb.cs_len _ _ x _ _ (by omega)).grew ⟨_, rfl⟩) (by simp only [maxLen, List.length_cons, List.length_nil]; omega) (by simp only [List.length_cons, List.length_nil]; omega) (by simp) ?_
        intro v2 W2 ho2 hg2 _
        rw [← HP.out] at ho2
        have HG2 := Lib.hid hg2
        have HO2 := Lib.hid ho2
        clear ho2 hg2 hX gX
        refine wpList_nil_then ?_
        refine wpAny_one 13 (by decide +kernel) (by kernel_rfl) (by decide +kernel) ?_
        simp only [pickOps_cons, pickOps_nil, pick1_zero, pick1_succ]
        go_wp2_with (fail)
        refine wpAny_end (by decide +kernel) (by kernel_rfl) ?_
        go_wp2
        go_ret
        exact ⟨_, rfl, HO2.out, HG2.out⟩
end Go.Proofs.Ytinkdkcmmjfhoaa
/- The document's Path. -/
namespace Go.Proofs.Ytinkdkcmmjfhoaa
set_option linter.unusedVariables false
set_option linter.unusedSimpArgs false
open Go.RowKit
set_option maxRecDepth 100000 in
set_option maxHeartbeats 6400000 in
theorem rPath_w (ls : List Idb) (i : Int) (v : Value) (w : World) (hv : ShowsI w v ls) :
    Calls Try.prog 31 #[v, .int .i64 i] w fun e w' => ∃ v', e = .returned (.tuple #[v', .bool (pathOk ls i)]) ∧ OwnE 32 Idb.cs w' w.heap.size 24 v' (pathOf ls i) ∧ Grew w w' := by
  obtain ⟨p, c, rfl⟩ := showsI_form hv
  by_cases h1 : 64 < ls.length
  · have hc := pathOk_no (ls := ls) (i := i) (by omega)
    have h1' : (64 : Int) < (ls.length : Int) := by omega
    rw [hc.1, hc.2]
    clear hv hc
    go_enter Try.func31, Try.ntmps31
    go_wp2
    go_ret2
    exact ⟨_, rfl, OwnE.nil _ _ _, (by repeat (first | with_reducible exact Grew.refl _ | with_reducible apply Grew.alloc | with_reducible apply Grew.grow | with_reducible apply Grew.drew | with_reducible apply Grew.drewN))⟩
  by_cases h2 : i < 0
  · have hc := pathOk_no (ls := ls) (i := i) (by omega)
    have h1' : (ls.length : Int) ≤ 64 := by omega
    rw [hc.1, hc.2]
    clear hv hc
    go_enter Try.func31, Try.ntmps31
    go_wp2
    go_ret2
    exact ⟨_, rfl, OwnE.nil _ _ _, (by repeat (first | with_reducible exact Grew.refl _ | with_reducible apply Grew.alloc | with_reducible apply Grew.grow | with_reducible apply Grew.drew | with_reducible apply Grew.drewN))⟩
  by_cases h3 : (ls.length : Int) ≤ i
  · have hc := pathOk_no (ls := ls) (i := i) (by omega)
    have h1' : (ls.length : Int) ≤ 64 := by omega
    have h2' : 0 ≤ i := by omega
    rw [hc.1, hc.2]
    clear hv hc
    go_enter Try.func31, Try.ntmps31
    go_wp2
    go_ret2
    exact ⟨_, rfl, OwnE.nil _ _ _, (by repeat (first | with_reducible exact Grew.refl _ | with_reducible apply Grew.alloc | with_reducible apply Grew.grow | with_reducible apply Grew.drew | with_reducible apply Grew.drewN))⟩
  obtain ⟨j, rfl⟩ : ∃ j : Nat, i = (j : Int) := ⟨i.toNat, by omega⟩
  have hok : pathOk ls j = true := decide_eq_true ⟨by omega, by omega, by omega⟩
  have hof : pathOf ls j = path ls j := by unfold pathOf; rw [if_pos hok]; rfl
  rw [hok, hof]
  have h1' : (ls.length : Int) ≤ 64 := by omega
  have h3' : (j : Int) < (ls.length : Int) := by omega
  have h4 : ¬ (ls.length : Int) ≤ (j : Int) := by omega
  have HV := Lib.hid hv
  have HJ := Lib.hid (And.intro h1 h3)
  clear hv hok hof h1 h2 h3
  have C1 := Lib.hid (fun W (g : Grew w W) => rpath_w ls.length ls j _ W (Nat.le_refl _) (by have := HJ.out; omega) (by have := HJ.out; omega) (by omega) (HV.out.grew g))
  go_enter Try.func31, Try.ntmps31
  go_wp2_with (go_at_call 51; refine (C1.out _ (by repeat (first | with_reducible exact Grew.refl _ | with_reducible apply Grew.alloc | with_reducible apply Grew.grow | with_reducible apply Grew.drew | with_reducible apply Grew.drewN))).mono ?_; rintro e w' ⟨v1, rfl, ho, hg⟩; have HO := Lib.hid ho; have HG := Lib.hid hg; clear ho hg)
  go_ret2
  exact ⟨_, rfl, HO.out, HG.out⟩
end Go.Proofs.Ytinkdkcmmjfhoaa
/- Paths lead to the root; they are no longer than the tree is high. No program in sight. -/
namespace Go.Proofs.Ytinkdkcmmjfhoaa
set_option linter.unusedVariables false
set_option linter.unusedSimpArgs false
theorem half_pow (n h : Nat) (h2 : 2 ≤ n) (hn : n ≤ 1099511627776) (hp : n ≤ 2 ^ h) : 1 ≤ h ∧ halfN n ≤ 2 ^ (h - 1) := by
  have hs := half_sand n h2 hn
  have e : halfN n = 2 ^ hexp n := rfl
  have hlt : 2 ^ hexp n < 2 ^ h := by omega
  have h3 := (Nat.pow_lt_pow_iff_right (by omega : 1 < 2)).1 hlt
  exact ⟨by omega, by rw [e]; exact Nat.pow_le_pow_right (by omega) (by omega)⟩
theorem side_high : ∀ (f n i h : Nat), n ≤ f → n ≤ 1099511627776 → n ≤ 2 ^ h → (side n i).length ≤ h
  | 0, n, i, h, hf, _, _ => by rw [side_one n i (by omega)]; simp
  | f + 1, n, i, h, hf, hb, hp => by
    rcases Nat.lt_or_ge n 2 with h2 | h2
    · rw [side_one n i (by omega)]; simp
    · have hs := half_sand n h2 hb
      have hps := half_pos n
      obtain ⟨h1, h3⟩ := half_pow n h h2 hb hp
      by_cases hi : i < halfN n
      · rw [side_left n i h2 hb hi, List.length_cons]
        have := side_high f (halfN n) i (h - 1) (by omega) (by omega) h3
        omega
      · rw [side_right n i h2 hb hi, List.length_cons]
        have := side_high f (n - halfN n) (i - halfN n) (h - 1) (by omega) (by omega) (by omega)
        omega
/-- A leaf's path leads to the root. -/
theorem top_path : ∀ (f : Nat) (ls : List Idb) (i : Nat) (x : Idb), ls.length ≤ f → ls.length ≤ 1099511627776 → ls[i]? = some x → top (side ls.length i).reverse x (path ls i) = root ls
  | 0, ls, i, x, hf, _, hx => by
    obtain rfl : ls = [] := List.length_eq_zero_iff.1 (by omega)
    simp at hx
  | f + 1, ls, i, x, hf, hb, hx => by
    have hi := (List.getElem?_eq_some_iff.1 hx).1
    rcases Nat.lt_or_ge ls.length 2 with h2 | h2
    · rw [side_one _ i (by omega), path_one ls i (by omega)]
      obtain ⟨y, rfl⟩ : ∃ y, ls = [y] := by
        match ls, h2, hi with
        | [y], _, _ => exact ⟨y, rfl⟩
      obtain rfl : i = 0 := by simp at hi; omega
      rw [root_one]
      simp only [List.getElem?_cons_zero, Option.some.injEq] at hx
      simp [top, hx]
    · have hs := half_sand ls.length h2 hb
      have hp := half_pos ls.length
      obtain ⟨k, hk⟩ : ∃ k, halfN ls.length = k := ⟨_, rfl⟩
      by_cases hik : i < halfN ls.length
      · have ht : (ls.take k).length = k := by rw [List.length_take]; omega
        have hr := top_path f (ls.take k) i x (by omega) (by omega) (by rw [List.getElem?_take, if_pos (by omega)]; exact hx)
        have hl := path_len (ls.take k) i (by omega)
        rw [ht] at hr hl
        rw [side_left _ i h2 hb hik, path_left ls i h2 hb hik, List.reverse_cons, hk, top_snoc _ _ _ _ _ (by rw [List.length_reverse, hl]), hr, root_cut ls h2 hb, hk]
        rfl
      · have ht : (ls.drop k).length = ls.length - k := by rw [List.length_drop]
        have hr := top_path f (ls.drop k) (i - k) x (by omega) (by omega) (by rw [List.getElem?_drop, show k + (i - k) = i by omega]; exact hx)
        have hl := path_len (ls.drop k) (i - k) (by omega)
        rw [ht] at hr hl
        rw [side_right _ i h2 hb hik, path_right ls i h2 hb hik, List.reverse_cons, hk, top_snoc _ _ _ _ _ (by rw [List.length_reverse, hl]), hr, root_cut ls h2 hb, hk]
        rfl
/-- The path of a leaf checks. -/
theorem chk_path (ls : List Idb) (i : Nat) (x : Idb) (hb : ls.length ≤ 64) (hx : ls[i]? = some x) : chk (root ls) (ls.length : Nat) (i : Nat) x (path ls i) = true := by
  have hi := (List.getElem?_eq_some_iff.1 hx).1
  have ht := top_path ls.length ls i x (Nat.le_refl _) (by omega) hx
  have hl := path_len ls i (by omega)
  have hs : sidesOf (ls.length : Nat) (i : Nat) = (side ls.length i).reverse := rfl
  unfold chk chkIn
  rw [hs, ht, decide_eq_true (show 1 ≤ ((ls.length : Nat) : Int) ∧ ((ls.length : Nat) : Int) ≤ 64 ∧ 0 ≤ ((i : Nat) : Int) ∧ ((i : Nat) : Int) < (ls.length : Nat) by omega), List.length_reverse, hl, decide_eq_true rfl]
  simp [ieq]
/-- A path of another length does not. -/
theorem chk_short (r : Idb) (n i : Nat) (x : Idb) (p : List Idb) (h : (side n i).length ≠ p.length) : chk r (n : Nat) (i : Nat) x p = false := by
  have hs : sidesOf (n : Nat) (i : Nat) = (side n i).reverse := rfl
  unfold chk
  rw [hs, List.length_reverse, decide_eq_false h, Bool.false_and, Bool.and_false]
end Go.Proofs.Ytinkdkcmmjfhoaa
/- Links. No program in sight. -/
namespace Go.Proofs.Ytinkdkcmmjfhoaa
set_option linter.unusedVariables false
set_option linter.unusedSimpArgs false
/-- How many links lead to the block. -/
def lev (level : Int) : Nat := (min level 31).toNat
def growL (l : List Idb) (id : Idb) (k : Nat) : List Idb := l.take 1 ++ (List.replicate k id ++ l.drop (k + 1))
def nextL (l : List Idb) (id : Idb) (level : Int) : List Idb := if 32 < l.length then [] else if l.length = 0 then [id] else growL l id (lev level)
theorem lev_le (level : Int) : lev level ≤ 31 := by unfold lev; omega
theorem lev_low (level : Int) (h : level < 1) : lev level = 0 := by unfold lev; omega
theorem growL_0 (l : List Idb) (id : Idb) : growL l id 0 = l := by unfold growL; rw [List.replicate_zero, List.nil_append, Nat.zero_add, List.take_append_drop]
theorem growL_len (l : List Idb) (id : Idb) (k : Nat) (h : 0 < l.length) : (growL l id k).length = max l.length (k + 1) := by
  unfold growL
  rw [List.length_append, List.length_append, List.length_replicate, List.length_take, List.length_drop]
  omega
theorem growL_get (l : List Idb) (id : Idb) (k j : Nat) (h : 0 < l.length) : (growL l id k)[j]? = if j = 0 then l[0]? else if j ≤ k then some id else l[j]? := by
  have ht : (l.take 1).length = 1 := by rw [List.length_take]; omega
  unfold growL
  rcases Nat.eq_zero_or_pos j with rfl | hj
  · rw [if_pos rfl, List.getElem?_append_left (by omega), List.getElem?_take, if_pos (by omega)]
  · rw [if_neg (by omega), List.getElem?_append_right (by omega), ht]
    by_cases hk : j ≤ k
    · rw [if_pos hk, List.getElem?_append_left (by rw [List.length_replicate]; omega), List.getElem?_replicate, if_pos (by omega)]
    · rw [if_neg hk, List.getElem?_append_right (by rw [List.length_replicate]; omega), List.length_replicate, List.getElem?_drop]
      congr 1
      omega
theorem growL_step (l : List Idb) (id : Idb) (k : Nat) (h : 0 < l.length) (hk : k + 1 < (growL l id k).length) : (growL l id k).set (k + 1) id = growL l id (k + 1) := by
  apply List.ext_getElem?
  intro j
  rw [List.getElem?_set, growL_get l id k j h, growL_get l id (k + 1) j h]
  by_cases hj : k + 1 = j
  · have n0 : ¬ j = 0 := by omega
    have n1 : j ≤ k + 1 := by omega
    rw [if_pos hj, if_pos hk, if_neg n0, if_pos n1]
  · rw [if_neg hj]
    by_cases n0 : j = 0
    · rw [if_pos n0, if_pos n0]
    · rw [if_neg n0, if_neg n0]
      by_cases h1 : j ≤ k
      · have h2 : j ≤ k + 1 := by omega
        rw [if_pos h1, if_pos h2]
      · have h2 : ¬ j ≤ k + 1 := by omega
        rw [if_neg h1, if_neg h2]
theorem growL_push (l : List Idb) (id : Idb) (k : Nat) (h : 0 < l.length) (hk : (growL l id k).length = k + 1) : growL l id k ++ [id] = growL l id (k + 1) := by
  have hk' := hk
  rw [growL_len l id k h] at hk'
  have hlk : l.length ≤ k + 1 := by omega
  apply List.ext_getElem?
  intro j
  rw [growL_get l id (k + 1) j h]
  rcases Nat.lt_or_ge j (k + 1) with hj | hj
  · rw [List.getElem?_append_left (by rw [hk]; exact hj), growL_get l id k j h]
    by_cases n0 : j = 0
    · rw [if_pos n0, if_pos n0]
    · have h1 : j ≤ k := by omega
      have h2 : j ≤ k + 1 := by omega
      rw [if_neg n0, if_neg n0, if_pos h1, if_pos h2]
  · have n0 : ¬ j = 0 := by omega
    rw [List.getElem?_append_right (by rw [hk]; exact hj), hk, if_neg n0]
    by_cases h1 : j = k + 1
    · subst h1
      rw [if_pos (Nat.le_refl _), Nat.sub_self]
      rfl
    · have h2 : ¬ j ≤ k + 1 := by omega
      rw [if_neg h2, List.getElem?_eq_none (by simp; omega), List.getElem?_eq_none (by omega)]
/-- The leaves of links. -/
def leavesL (l : List Idb) : List Idb := l.map fun x => Idb.leaf x.l
theorem leavesL_len (l : List Idb) : (leavesL l).length = l.length := by simp [leavesL]
theorem leavesL_get (l : List Idb) (j : Nat) (x : Idb) (h : l[j]? = some x) : (leavesL l)[j]? = some (Idb.leaf x.l) := by simp [leavesL, h]
/-- Do links, or the one ahead, lead to an id? -/
def leadsB (l : List Idb) (prev id : Idb) : Bool := ieq prev.l id.l || l.any fun x => ieq x.l id.l
end Go.Proofs.Ytinkdkcmmjfhoaa
/- The document's climb. -/
namespace Go.Proofs.Ytinkdkcmmjfhoaa
set_option linter.unusedVariables false
set_option linter.unusedSimpArgs false
open Go.RowKit
def climbL (ss : List Nat) (x : Idb) (ys : List Idb) (k : Nat) : List Idb := (List.range (k + 1)).map (topk ss x ys)
theorem climbL_len (ss : List Nat) (x : Idb) (ys : List Idb) (k : Nat) : (climbL ss x ys k).length = k + 1 := by simp [climbL]
theorem climbL_get (ss : List Nat) (x : Idb) (ys : List Idb) (k j : Nat) (h : j ≤ k) : (climbL ss x ys k)[j]? = some (topk ss x ys j) := by
  unfold climbL
  rw [List.getElem?_map, List.getElem?_range (by omega)]
  rfl
theorem climbL_succ (ss : List Nat) (x : Idb) (ys : List Idb) (k : Nat) : climbL ss x ys (k + 1) = climbL ss x ys k ++ [topk ss x ys (k + 1)] := by
  unfold climbL
  rw [List.range_succ, List.map_append]
  rfl
theorem code_abs {P : Program} {c : Code} {Q : Exit → Act → World → Prop} {a : Act} {X : World} (h : ∀ Y, Y = X → Code.wp P c Q a Y) : Code.wp P c Q a X := h X rfl
set_option maxRecDepth 100000 in
set_option maxHeartbeats 6400000 in
theorem climb_w (ss : List Nat) (x : Idb) (ys : List Idb) (v1 v2 : Value) (w : World) (hs : ∀ s ∈ ss, s = 0 ∨ s = 1) (hl : ss.length = ys.length) (hn : ss.length ≤ 100000) (h1 : Shows w v1 (bvs ss)) (h2 : ShowsI w v2 ys) :
    Calls Try.prog 56 #[v1, .agg (iv x.l), v2] w fun e w' => ∃ v, e = .returned v ∧ OwnE 32 Idb.cs w' w.heap.size 24 v (climbL ss x ys ss.length) ∧ Grew w w' := by
  obtain ⟨p1, c1, rfl⟩ := shows_form h1
  obtain ⟨p2, c2, rfl⟩ := showsI_form h2
  obtain ⟨ii, hif, hz, hsz, hby⟩ := info_id
  obtain ⟨N, hN⟩ : ∃ N, ss.length = N := ⟨_, rfl⟩
  have H1 := Lib.hid h1
  have H2 := Lib.hid h2
  clear h1 h2
  rw [bvs_len] at H1 ⊢
  rw [← hl] at H2 ⊢
  rw [hN] at H1 H2 hn ⊢
  have hx := x.len
  go_enter Try.func56, Try.ntmps56
  go_wp2
  obtain ⟨A, hA⟩ : ∃ A, (w.alloc (Obj.cells (iv x.l) 24)).alloc (Obj.cells (iv x.l) 24) = A := ⟨_, rfl⟩
  have gA : Grew w A := by rw [← hA]; exact (by repeat (first | with_reducible exact Grew.refl _ | with_reducible apply Grew.alloc | with_reducible apply Grew.grow | with_reducible apply Grew.drew | with_reducible apply Grew.drewN))
  have o0 : OwnE 32 Idb.cs A w.heap.size 24 (.slice (some ⟨w.heap.size + 1, 0, none⟩) 1 1) (climbL ss x ys 0) := by
    have h3 := OwnE.made Idb.cs_len (w.alloc (Obj.cells (iv x.l) 24)) w.heap.size 24 [x] (by simp) (by simp [maxLen])
    have e1 : ([x].flatMap Idb.cs).toArray = iv x.l := by rw [List.flatMap_cons, List.flatMap_nil, List.append_nil]; rfl
    rw [e1, hA, World.size_alloc] at h3
    exact h3
  rw [hA]
  have O0 := Lib.hid o0
  have GA := Lib.hid gA
  clear o0 gA hA
  go_loopw [8, 7] (fun i v wr => ∃ k : Nat, k ≤ N ∧ i = .int .i64 k ∧ OwnE 32 Idb.cs wr w.heap.size 24 v (climbL ss x ys k) ∧ Grew w wr) (fun i _ _ => N - (intOf i).toNat)
  case atStart => exact ⟨0, by omega, rfl, O0.out, GA.out⟩
  case round =>
    obtain ⟨k, hk, rfl, ho, hg⟩ := hrel
    have hlen := climbL_len ss x ys k
    obtain ⟨g, cap, hv, hgb, hgs, hcap⟩ := (ho.form).resolve_left (by rintro ⟨_, h⟩; rw [h] at hlen; simp at hlen)
    rw [hlen] at hv hcap
    subst hv
    have HO := Lib.hid ho
    have GW := Lib.hid hg
    have hzr := OwnE.range Idb.cs_len ho k _ (climbL_get ss x ys k k (Nat.le_refl _))
    have zB : w.heap.size ≤ wr.heap.size := hg.size
    clear ho hg
    obtain ⟨z, hzz⟩ : ∃ z, topk ss x ys k = z := ⟨_, rfl⟩
    have hzl := z.len
    rw [hzz] at hzr
    by_cases hkN : k < N
    · have hlt : (k : Int) < (N : Int) := by omega
      obtain ⟨s, hsk⟩ : ∃ s, ss[k]? = some s := ⟨_, List.getElem?_eq_getElem (by omega)⟩
      obtain ⟨y, hyk⟩ : ∃ y, ys[k]? = some y := ⟨_, List.getElem?_eq_getElem (by omega)⟩
      have hst0 := (stepk ss x ys k s y hl hsk hyk).2
      have hs01 := hs s (List.mem_of_getElem? hsk)
      obtain ⟨b1, o1, hp1, hb1, hc1⟩ : ∃ b o, p1 = some ⟨b, o, none⟩ ∧ b < w.heap.size ∧ w.cell? ⟨b, o + k, none⟩ = some (.bool (s == 0)) := by
        rcases H1.out with ⟨b, o, c, he, hb, h⟩ | ⟨p', c', he, h0⟩
        · simp only [Value.slice.injEq] at he
          exact ⟨b, o, he.1, hb, h k _ (by simp [bvs, hsk])⟩
        · have := bvs_len ss; rw [h0] at this; simp at this; omega
      obtain ⟨b2, o2, hp2, e1, e2, hb2, hr2⟩ := showsI_some H2.out (by rw [← hl]; omega)
      have hr := hr2 k y hyk
      subst hp1 hp2
      have hld0 := load_idm hzr
      have c1' : ∀ C t, (wr.alloc (.cells C t)).cell? ⟨b1, o1 + k, none⟩ = some (.bool (s == 0)) := fun C t => Grew.cell (GW.out.trans (by repeat (first | with_reducible exact Grew.refl _ | with_reducible apply Grew.alloc | with_reducible apply Grew.grow | with_reducible apply Grew.drew | with_reducible apply Grew.drewN))) hc1
      have qld : ∀ δ, (rowLoad 24 (.pointer (some ⟨b2, o2 + k * 32, none⟩))).run Try.prog ((wr.alloc (.cells (iv z.l) 24)).grow δ) = .ok (.value (.agg (iv y.l))) ((wr.alloc (.cells (iv z.l) 24)).grow δ) := fun δ => load_idm (World.rangeAt.grew hr (GW.out.trans (by repeat (first | with_reducible exact Grew.refl _ | with_reducible apply Grew.alloc | with_reducible apply Grew.grow | with_reducible apply Grew.drew | with_reducible apply Grew.drewN))))
      have hyl := y.len
      rw [hzz] at hst0
      have hcs := climbL_succ ss x ys k
      rw [hst0] at hcs
      have HST := Lib.hid hcs
      have hzN : (N : Int) ≤ 100000 := by omega
      have hkl : (k : Int) < (k : Int) + 1 := by omega
      have hk1 : (climbL ss x ys k).length + 1 ≤ 100002 := by omega
      clear hst0 hcs hsk hyk hr2 hr hc1 hs e1 e2 hl hN hn hk hlen hzr O0 GA hgb hcap
      rcases hs01 with rfl | rfl
      · go_wp2
        refine code_abs ?_
        intro Y hY
        have gY : Grew wr Y := by rw [hY]; exact (by repeat (first | with_reducible exact Grew.refl _ | with_reducible apply Grew.alloc | with_reducible apply Grew.grow | with_reducible apply Grew.drew | with_reducible apply Grew.drewN))
        have rY : Y.rowAt wr.heap.size = iv z.l := by rw [hY]; simp [go_sem]
        have zY : wr.heap.size < Y.heap.size := by rw [hY]; simp
        have qY : ∀ δ, (rowLoad 24 (.pointer (some ⟨b2, o2 + k * 32, none⟩))).run Try.prog (Y.grow δ) = .ok (.value (.agg (iv y.l))) (Y.grow δ) := fun δ => by rw [hY]; exact qld δ
        have GY := Lib.hid gY
        clear hY gY qld
        refine wp_region_flowX [8,9] (by kernel_rfl) ?_
        intro δf
        apply wpFlowX_quiets [0,1,2,3,4,5] (by decide +kernel) (by decide +kernel) (by kernel_rfl) (by intro _ _ _ d _ h; cases d <;> exact h) _
        · intro A hA δ'
          simp only [pickOps_cons, pickOps_nil, pick1_zero, pick1_succ]
          repeat (go_big_quiet_step ((fail)))
          exact wpQuiet_nil hA.out.symm
        apply wpFlowX_quiets [6] (by decide +kernel) (by decide +kernel) (by kernel_rfl) (by intro _ _ _ d _ h; cases d <;> exact h) _
        · intro A hA δ'
          simp only [pickOps_cons, pickOps_nil, pick1_zero, pick1_succ]
          repeat (go_big_quiet_step ((go_at_call 54; exact Calls.pure_of_g3 (rnode_w z y _))))
          exact wpQuiet_nil hA.out.symm
        refine wpFlowX_one 7 (by decide +kernel) (by kernel_rfl) (by decide +kernel) (by decide +kernel) ?_
        simp only [pickOps_cons, pickOps_nil, pick1_zero, pick1_succ]
        intro δf
        go_wp2_with (fail)
        refine ⟨(by first | assumption | (simp only [grow_grow, Array.append_assoc]; assumption) | exact Grew.refl _ | (simp only [grow_grow, Array.append_assoc]; exact (by repeat (first | with_reducible exact Grew.refl _ | with_reducible apply Grew.alloc | with_reducible apply Grew.grow | with_reducible apply Grew.drew | with_reducible apply Grew.drewN))) | exact (by repeat (first | with_reducible exact Grew.refl _ | with_reducible apply Grew.alloc | with_reducible apply Grew.grow | with_reducible apply Grew.drew | with_reducible apply Grew.drewN))), ?_⟩
        refine wpFlowX_esc 8 (by decide +kernel) (by kernel_rfl) (by decide +kernel) (by decide +kernel) ?_
        simp only [pickOps_cons, pickOps_nil, pick1_zero, pick1_succ]
        intro δf
        refine wpList_abs ?_
        intro X hX
        have gX : Grew wr X := GY.out.trans (by rw [hX]; exact (by repeat (first | with_reducible exact Grew.refl _ | with_reducible apply Grew.alloc | with_reducible apply Grew.grow | with_reducible apply Grew.drew | with_reducible apply Grew.drewN)))
        have hnl := (Idb.node z y).len
        refine wpList_appendE Idb.cs_len (by decide) rfl _ _ _ rfl _ ii _ 32 under_ids hif hz hsz hby (by exact (iv_size id0).trans id0_len) cs_one w X w.heap.size _ _ rfl rfl (climbL ss x ys k) [Idb.node z y] (GW.out.trans gX) (Nat.le_refl _) (Nat.le_trans zB gX.size) (by exact HO.out.grew gX) (by rw [hX]; exact (showsE_one_g Idb.cs_len _ _ (Idb.node z y) _ _ (by omega)).grew ⟨_, rfl⟩) (by simp only [maxLen, List.length_cons, List.length_nil]; omega) (by simp only [List.length_cons, List.length_nil]; omega) (by simp) ?_
        intro v2 W2 ho2 hg2 _
        have hst : climbL ss x ys (k + 1) = climbL ss x ys k ++ [Idb.node z y] := HST.out
        rw [← hst] at ho2
        have HG2 := Lib.hid hg2
        have HO2 := Lib.hid ho2
        clear ho2 hg2 hX gX hst
        refine wpList_nil_then ?_
        refine wpAny_one 9 (by decide +kernel) (by kernel_rfl) (by decide +kernel) ?_
        simp only [pickOps_cons, pickOps_nil, pick1_zero, pick1_succ]
        go_wp2_with (fail)
        refine wpAny_end (by decide +kernel) (by kernel_rfl) ?_
        go_wp2
        exact ⟨⟨k + 1, by omega, by go_num, HO2.out, HG2.out⟩, by simp only [intOf]; omega⟩
      · go_wp2
        refine code_abs ?_
        intro Y hY
        have gY : Grew wr Y := by rw [hY]; exact (by repeat (first | with_reducible exact Grew.refl _ | with_reducible apply Grew.alloc | with_reducible apply Grew.grow | with_reducible apply Grew.drew | with_reducible apply Grew.drewN))
        have rY : Y.rowAt wr.heap.size = iv z.l := by rw [hY]; simp [go_sem]
        have zY : wr.heap.size < Y.heap.size := by rw [hY]; simp
        have qY : ∀ δ, (rowLoad 24 (.pointer (some ⟨b2, o2 + k * 32, none⟩))).run Try.prog (Y.grow δ) = .ok (.value (.agg (iv y.l))) (Y.grow δ) := fun δ => by rw [hY]; exact qld δ
        have GY := Lib.hid gY
        clear hY gY qld
        refine wp_region_flowX [8,9] (by kernel_rfl) ?_
        intro δf
        apply wpFlowX_quiets [0,1,2,3,4,5] (by decide +kernel) (by decide +kernel) (by kernel_rfl) (by intro _ _ _ d _ h; cases d <;> exact h) _
        · intro A hA δ'
          simp only [pickOps_cons, pickOps_nil, pick1_zero, pick1_succ]
          repeat (go_big_quiet_step ((fail)))
          exact wpQuiet_nil hA.out.symm
        apply wpFlowX_quiets [6] (by decide +kernel) (by decide +kernel) (by kernel_rfl) (by intro _ _ _ d _ h; cases d <;> exact h) _
        · intro A hA δ'
          simp only [pickOps_cons, pickOps_nil, pick1_zero, pick1_succ]
          repeat (go_big_quiet_step ((go_at_call 54; exact Calls.pure_of_g3 (rnode_w y z _))))
          exact wpQuiet_nil hA.out.symm
        refine wpFlowX_one 7 (by decide +kernel) (by kernel_rfl) (by decide +kernel) (by decide +kernel) ?_
        simp only [pickOps_cons, pickOps_nil, pick1_zero, pick1_succ]
        intro δf
        go_wp2_with (fail)
        refine ⟨(by first | assumption | (simp only [grow_grow, Array.append_assoc]; assumption) | exact Grew.refl _ | (simp only [grow_grow, Array.append_assoc]; exact (by repeat (first | with_reducible exact Grew.refl _ | with_reducible apply Grew.alloc | with_reducible apply Grew.grow | with_reducible apply Grew.drew | with_reducible apply Grew.drewN))) | exact (by repeat (first | with_reducible exact Grew.refl _ | with_reducible apply Grew.alloc | with_reducible apply Grew.grow | with_reducible apply Grew.drew | with_reducible apply Grew.drewN))), ?_⟩
        refine wpFlowX_esc 8 (by decide +kernel) (by kernel_rfl) (by decide +kernel) (by decide +kernel) ?_
        simp only [pickOps_cons, pickOps_nil, pick1_zero, pick1_succ]
        intro δf
        refine wpList_abs ?_
        intro X hX
        have gX : Grew wr X := GY.out.trans (by rw [hX]; exact (by repeat (first | with_reducible exact Grew.refl _ | with_reducible apply Grew.alloc | with_reducible apply Grew.grow | with_reducible apply Grew.drew | with_reducible apply Grew.drewN)))
        have hnl := (Idb.node y z).len
        refine wpList_appendE Idb.cs_len (by decide) rfl _ _ _ rfl _ ii _ 32 under_ids hif hz hsz hby (by exact (iv_size id0).trans id0_len) cs_one w X w.heap.size _ _ rfl rfl (climbL ss x ys k) [Idb.node y z] (GW.out.trans gX) (Nat.le_refl _) (Nat.le_trans zB gX.size) (by exact HO.out.grew gX) (by rw [hX]; exact (showsE_one_g Idb.cs_len _ _ (Idb.node y z) _ _ (by omega)).grew ⟨_, rfl⟩) (by simp only [maxLen, List.length_cons, List.length_nil]; omega) (by simp only [List.length_cons, List.length_nil]; omega) (by simp) ?_
        intro v2 W2 ho2 hg2 _
        have hst : climbL ss x ys (k + 1) = climbL ss x ys k ++ [Idb.node y z] := HST.out
        rw [← hst] at ho2
        have HG2 := Lib.hid hg2
        have HO2 := Lib.hid ho2
        clear ho2 hg2 hX gX hst
        refine wpList_nil_then ?_
        refine wpAny_one 9 (by decide +kernel) (by kernel_rfl) (by decide +kernel) ?_
        simp only [pickOps_cons, pickOps_nil, pick1_zero, pick1_succ]
        go_wp2_with (fail)
        refine wpAny_end (by decide +kernel) (by kernel_rfl) ?_
        go_wp2
        exact ⟨⟨k + 1, by omega, by go_num, HO2.out, HG2.out⟩, by simp only [intOf]; omega⟩
    · obtain rfl : k = N := by omega
      have hge : ¬ ((k : Int) < (k : Int)) := by omega
      clear hk hkN hzr hl hN hn
      go_wp2
      go_ret
      exact ⟨_, rfl, HO.out, GW.out⟩
end Go.Proofs.Ytinkdkcmmjfhoaa
/- The document's Check. -/
namespace Go.Proofs.Ytinkdkcmmjfhoaa
set_option linter.unusedVariables false
set_option linter.unusedSimpArgs false
open Go.RowKit
set_option maxRecDepth 100000 in
set_option maxHeartbeats 6400000 in
theorem rcheck_w (root : Idb) (n i : Int) (leaf : Idb) (path : List Idb) (v : Value) (w : World) (hv : ShowsI w v path) (hp : path.length ≤ 1000000) :
    Calls Try.prog 36 #[.agg (iv root.l), .int .i64 n, .int .i64 i, .agg (iv leaf.l), v] w fun e w' => e = .returned (.bool (chk root n i leaf path)) ∧ Grew w w' := by
  obtain ⟨p, c, rfl⟩ := showsI_form hv
  have HV := Lib.hid hv
  clear hv
  have hrl := root.len
  have hll := leaf.len
  by_cases h1 : n < 1
  · have HC := Lib.hid (chk_out (n := n) (i := i) (by omega) root leaf path)
    go_enter Try.func36, Try.ntmps36
    go_wp2
    go_ret
    exact ⟨by rw [HC.out]; rfl, (by repeat (first | with_reducible exact Grew.refl _ | with_reducible apply Grew.alloc | with_reducible apply Grew.grow | with_reducible apply Grew.drew | with_reducible apply Grew.drewN))⟩
  by_cases h2 : 64 < n
  · have HC := Lib.hid (chk_out (n := n) (i := i) (by omega) root leaf path)
    go_enter Try.func36, Try.ntmps36
    go_wp2
    go_ret
    exact ⟨by rw [HC.out]; rfl, (by repeat (first | with_reducible exact Grew.refl _ | with_reducible apply Grew.alloc | with_reducible apply Grew.grow | with_reducible apply Grew.drew | with_reducible apply Grew.drewN))⟩
  by_cases h3 : i < 0
  · have HC := Lib.hid (chk_out (n := n) (i := i) (by omega) root leaf path)
    go_enter Try.func36, Try.ntmps36
    go_wp2
    go_ret
    exact ⟨by rw [HC.out]; rfl, (by repeat (first | with_reducible exact Grew.refl _ | with_reducible apply Grew.alloc | with_reducible apply Grew.grow | with_reducible apply Grew.drew | with_reducible apply Grew.drewN))⟩
  by_cases h4 : n ≤ i
  · have HC := Lib.hid (chk_out (n := n) (i := i) (by omega) root leaf path)
    go_enter Try.func36, Try.ntmps36
    go_wp2
    go_ret
    exact ⟨by rw [HC.out]; rfl, (by repeat (first | with_reducible exact Grew.refl _ | with_reducible apply Grew.alloc | with_reducible apply Grew.grow | with_reducible apply Grew.drew | with_reducible apply Grew.drewN))⟩
  obtain ⟨m, rfl⟩ : ∃ m : Nat, n = (m : Int) := ⟨n.toNat, by omega⟩
  obtain ⟨j, rfl⟩ : ∃ j : Nat, i = (j : Int) := ⟨i.toNat, by omega⟩
  have hc : chk root m j leaf path = (decide ((sidesOf m j).length = path.length) && ieq (top (sidesOf m j) leaf path).l root.l) := by
    unfold chk chkIn
    rw [decide_eq_true (show 1 ≤ (m : Int) ∧ (m : Int) ≤ 64 ∧ 0 ≤ (j : Int) ∧ (j : Int) < m by omega), Bool.true_and]
  have hs : sidesOf m j = (side m j).reverse := rfl
  have h01 := side_01 m j
  have hsl := side_len m j (by omega) (by omega)
  have C1 := Lib.hid (fun W => rsides_w m m j (Nat.le_refl _) (by omega) (by omega) (by omega) W)
  rw [← hs] at h01 C1
  obtain ⟨ss, hss⟩ : ∃ ss, sidesOf m j = ss := ⟨_, rfl⟩
  rw [hss] at hs hc h01 C1
  have hsl2 : ss.length < m := by rw [hs, List.length_reverse]; exact hsl
  have C2 := Lib.hid (fun (hl : ss.length = path.length) W v1 v2 (a : Shows W v1 (bvs ss)) (b : ShowsI W v2 path) => climb_w ss leaf path v1 v2 W h01 hl (by omega) a b)
  have HC := Lib.hid hc
  obtain ⟨S, hS⟩ : ∃ S, ss.length = S := ⟨_, rfl⟩
  obtain ⟨Q, hQ⟩ : ∃ Q, path.length = Q := ⟨_, rfl⟩
  have HS := Lib.hid hS
  have HQ := Lib.hid hQ
  have hSI : (S : Int) ≤ 64 := by omega
  have hQI : (Q : Int) ≤ 1000000 := by omega
  rw [hQ] at HV ⊢
  clear hc hs h01 hsl hss hsl2 hS hQ hp
  by_cases hSQ : S = Q
  · have htl := (top ss leaf path).len
    have hall := (prsk_all ss leaf path (by rw [HS.out, HQ.out, hSQ])).2
    rw [HS.out] at hall
    obtain ⟨T, hT⟩ : ∃ T, top ss leaf path = T := ⟨_, rfl⟩
    rw [hT] at htl HC hall
    have HALL := Lib.hid hall
    clear hT hall
    subst hSQ
    have pre : ∀ w' : World, Grew ((w.alloc (.cells (iv root.l) 24)).alloc (.cells (iv leaf.l) 24)) w' → Grew w w' ∧ w'.rowAt w.heap.size = iv root.l ∧ w'.rowAt (w.heap.size + 1) = iv leaf.l ∧ w.heap.size < w'.heap.size ∧ w.heap.size + 1 < w'.heap.size := fun w' hg => by
      have hsz := hg.size
      simp only [World.size_alloc] at hsz
      refine ⟨(show Grew w _ from (by repeat (first | with_reducible exact Grew.refl _ | with_reducible apply Grew.alloc | with_reducible apply Grew.grow | with_reducible apply Grew.drew | with_reducible apply Grew.drewN))).trans hg, ?_, ?_, by omega, by omega⟩
      · rw [Grew.rowAt hg _ (by simp; omega)]; simp [go_sem]
      · rw [Grew.rowAt hg _ (by simp)]; simp [go_sem]
    go_enter Try.func36, Try.ntmps36
    go_wp2_with (first | (go_at_call 55; refine (C1.out _).mono ?_; rintro e w' ⟨v, rfl, ho, hg⟩; obtain ⟨p1, c1, rfl⟩ := shows_form ho.shows; obtain ⟨gw, r0, r1, z0, z1⟩ := pre w' hg; have HO := Lib.hid ho; have GW := Lib.hid gw; clear ho hg gw pre; rw [bvs_len, HS.out] at HO ⊢) | (go_at_call 56; refine stop_of ?_))
    unfold Stop
    refine (C2.out (by rw [HS.out, HQ.out]) _ _ _ HO.out.shows (HV.out.grew GW.out)).mono ?_
    rintro e w'' ⟨v3, rfl, ho3, ⟨δ, rfl⟩⟩
    have z2 : w.heap.size < w'.heap.size + δ.n := by omega
    rw [HS.out] at ho3
    have hlen := climbL_len ss leaf path S
    obtain ⟨g, cap, hv, hgb, hgs, hcap⟩ := (ho3.form).resolve_left (by rintro ⟨_, h⟩; rw [h] at hlen; simp at hlen)
    rw [hlen] at hv
    subst hv
    have hld := load_idm (OwnE.range Idb.cs_len ho3 S _ (climbL_get ss leaf path S S (Nat.le_refl _)))
    rw [HALL.out] at hld
    have hd2 : ∀ n, (rowLoad 24 (.pointer (some ⟨g, S * 32, none⟩))).run Try.prog (w'.grow ⟨δ.objs, n⟩) = .ok (.value (.agg (iv T.l))) (w'.grow ⟨δ.objs, n⟩) := fun n => by
      have h7 := OwnE.range Idb.cs_len ho3 S _ (climbL_get ss leaf path S S (Nat.le_refl _))
      rw [HALL.out] at h7
      exact load_idm (World.rangeAt.grew h7 ⟨⟨#[], n⟩, by simp [grow_grow]⟩)
    have hSlt : (S : Int) < (S : Int) + 1 := by omega
    clear ho3 hcap hgb hgs hlen
    simp only []
    go_wp2
    go_region
    all_goals go_wp2
    go_ret
    refine ⟨?_, GW.out.trans (by repeat (first | with_reducible exact Grew.refl _ | with_reducible apply Grew.alloc | with_reducible apply Grew.grow | with_reducible apply Grew.drew | with_reducible apply Grew.drewN))⟩
    rw [HC.out, HS.out, HQ.out, decide_eq_true rfl, Bool.true_and]
    rfl
  · have hne : ¬ (S : Int) = (Q : Int) := by omega
    clear C2
    go_enter Try.func36, Try.ntmps36
    go_wp2_with (go_at_call 55; refine (C1.out _).mono ?_; rintro e w' ⟨v, rfl, ho, hg⟩; obtain ⟨p1, c1, rfl⟩ := shows_form ho.shows; have HO := Lib.hid ho; have HG := Lib.hid hg; clear ho hg; rw [bvs_len, HS.out] at HO ⊢)
    go_ret
    refine ⟨?_, (show Grew w _ from (by repeat (first | with_reducible exact Grew.refl _ | with_reducible apply Grew.alloc | with_reducible apply Grew.grow | with_reducible apply Grew.drew | with_reducible apply Grew.drewN))).trans HG.out⟩
    rw [HC.out, HS.out, HQ.out, decide_eq_false hSQ, Bool.false_and]
    rfl
end Go.Proofs.Ytinkdkcmmjfhoaa
/- The document's Ids, on two slices that show the same. -/
namespace Go.Proofs.Ytinkdkcmmjfhoaa
set_option linter.unusedVariables false
set_option linter.unusedSimpArgs false
open Go.RowKit
set_option maxRecDepth 100000 in
set_option maxHeartbeats 6400000 in
theorem ids_w (ls : List Idb) (v1 v2 : Value) (w : World) (hn : ls.length ≤ 100000) (h1 : ShowsI w v1 ls) (h2 : ShowsI w v2 ls) :
    Calls Try.prog 12 #[v1, v2] w fun e w' => e = .returned (.bool true) ∧ Grew w w' := by
  obtain ⟨p1, c1, rfl⟩ := showsI_form h1
  obtain ⟨p2, c2, rfl⟩ := showsI_form h2
  obtain ⟨N, hN⟩ : ∃ N, ls.length = N := ⟨_, rfl⟩
  have H1 := Lib.hid h1
  have H2 := Lib.hid h2
  clear h1 h2
  rw [hN] at H1 H2 hn ⊢
  go_enter Try.func12, Try.ntmps12
  go_wp2
  go_loopw [5] (fun i wr => ∃ k : Nat, k ≤ N ∧ i = .int .i64 k ∧ Grew w wr) (fun i _ => N - (intOf i).toNat)
  case atStart => exact ⟨0, by omega, rfl, Grew.refl _⟩
  case round =>
    obtain ⟨k, hk, rfl, δ, rfl⟩ := hrel
    by_cases hkN : k < N
    · have hlt : (k : Int) < (N : Int) := by omega
      obtain ⟨x, hx⟩ : ∃ x, ls[k]? = some x := ⟨_, List.getElem?_eq_getElem (by omega)⟩
      obtain ⟨b1, o1, rfl, e1, e2, hb1, hr1⟩ := showsI_some H1.out (by omega)
      obtain ⟨b2, o2, rfl, e3, e4, hb2, hr2⟩ := showsI_some H2.out (by omega)
      have q1 : ∀ δ, (rowLoad 24 (.pointer (some ⟨b1, o1 + k * 32, none⟩))).run Try.prog (w.grow δ) = .ok (.value (.agg (iv x.l))) (w.grow δ) := fun δ => load_idm (World.rangeAt.grew (hr1 k x hx) ⟨δ, rfl⟩)
      have q2 : ∀ δ, (rowLoad 24 (.pointer (some ⟨b2, o2 + k * 32, none⟩))).run Try.prog (w.grow δ) = .ok (.value (.agg (iv x.l))) (w.grow δ) := fun δ => load_idm (World.rangeAt.grew (hr2 k x hx) ⟨δ, rfl⟩)
      have hxl := x.len
      have hie : ieq x.l x.l = true := decide_eq_true rfl
      have hNI : (N : Int) ≤ 100000 := by omega
      clear e1 e2 e3 e4 hr1 hr2 hx hN hn hk
      go_wp2
      go_region
      all_goals
        go_wp2
        exact ⟨⟨k + 1, by omega, by go_num, (by repeat (first | with_reducible exact Grew.refl _ | with_reducible apply Grew.alloc | with_reducible apply Grew.grow | with_reducible apply Grew.drew | with_reducible apply Grew.drewN))⟩, by simp only [intOf]; omega⟩
    · obtain rfl : k = N := by omega
      have hge : ¬ ((k : Int) < (k : Int)) := by omega
      clear hk hkN hN hn
      go_wp2
      go_ret
      exact ⟨rfl, (by repeat (first | with_reducible exact Grew.refl _ | with_reducible apply Grew.alloc | with_reducible apply Grew.grow | with_reducible apply Grew.drew | with_reducible apply Grew.drewN))⟩
end Go.Proofs.Ytinkdkcmmjfhoaa
/- The document's Of. -/
namespace Go.Proofs.Ytinkdkcmmjfhoaa
set_option linter.unusedVariables false
set_option linter.unusedSimpArgs false
open Go.RowKit
theorem catk_step' (ls : List (List Nat)) (k : Nat) (h : k < ls.length) : bys (catk ls (k + 1)) = bys (catk ls k) ++ bys (ls.getD k []) := by rw [catk_succ ls k h, bys_append]
set_option maxRecDepth 100000 in
set_option maxHeartbeats 6400000 in
theorem rof_w (ls : List (List Nat)) (v : Value) (w : World) (hb : ∀ l ∈ ls, ∀ x ∈ l, x < 256) (hn : ls.length ≤ 1000000) (hl : ∀ k, (catk ls k).length ≤ 1000000) (hv : RowsAt w v ls) :
    Calls Try.prog 57 #[v] w fun e w' => e = .returned (.agg (iv (sum ls.flatten))) ∧ Grew w w' := by
  obtain ⟨ib, hi, hz, hsz, hby⟩ := info_b
  obtain ⟨vs, hv1, hv2, hv3⟩ := hv
  obtain ⟨p, c, rfl⟩ := shows_form hv2
  rw [hv1] at hv2 ⊢
  have HV1 := Lib.hid hv1
  have HV2 := Lib.hid hv2
  have HV3 := Lib.hid hv3
  have HB := Lib.hid hb
  have HL := Lib.hid hl
  have hsl := sum_len ls.flatten
  obtain ⟨N, hN⟩ : ∃ N, ls.length = N := ⟨_, rfl⟩
  have HN := Lib.hid hN
  rw [hN] at hn hv2 HV2 ⊢
  clear hv1 hv2 hv3 hb hl hN
  go_enter Try.func57, Try.ntmps57
  go_wp2
  obtain ⟨A, hA⟩ : ∃ A, w.alloc (.cells (iv id0) 24) = A := ⟨_, rfl⟩
  have gA : Grew w A := by rw [← hA]; exact (by repeat (first | with_reducible exact Grew.refl _ | with_reducible apply Grew.alloc | with_reducible apply Grew.grow | with_reducible apply Grew.drew | with_reducible apply Grew.drewN))
  have sA : A.heap.size = w.heap.size + 1 := by rw [← hA]; simp
  have r0 : A.rowAt w.heap.size = iv id0 := by rw [← hA]; simp [go_sem]
  have f0 : A.rowFree w.heap.size = true := by rw [← hA]; simp [go_sem]
  rw [hA]
  have GA := Lib.hid gA
  have R0 := Lib.hid r0
  have F0 := Lib.hid f0
  clear hA gA r0 f0
  go_loopw [4, 3] (fun i v wr => ∃ m : Nat, m ≤ N ∧ i = .int .i64 m ∧ OwnR wr A.heap.size 5 v (bys (catk ls m)) ∧ Grew A wr) (fun i _ _ => N - (intOf i).toNat)
  case atStart => exact ⟨0, by omega, rfl, OwnR.nil _ _ _, Grew.refl _⟩
  case round =>
    obtain ⟨m, hm, rfl, ho, hg⟩ := hrel
    have HO := Lib.hid ho
    have HG := Lib.hid hg
    have GW := Lib.hid (GA.out.trans hg)
    clear ho hg
    by_cases hmN : m < N
    · have hlt : (m : Int) < (N : Int) := by omega
      have hrow := (HV3.out m (by rw [HN.out]; exact hmN)).grew GW.out
      obtain ⟨b, o, hp, hbw, hcell⟩ : ∃ b o, p = some ⟨b, o, none⟩ ∧ b < w.heap.size ∧ w.cell? ⟨b, o + m, none⟩ = some (vs.getD m undef) := by
        rcases HV2.out with ⟨b, o, c2, he, hb2, hc⟩ | ⟨p2, c2, he, h0⟩
        · simp only [Value.slice.injEq] at he
          exact ⟨b, o, he.1, hb2, hc m _ (by simp [List.getD, HV1.out, HN.out, hmN])⟩
        · exfalso
          have := HV1.out
          rw [h0] at this
          simp at this
          have := HN.out
          omega
      subst hp
      have hcell2 := GW.out.cell hcell
      have hstep := Lib.hid (catk_step' ls m (by rw [HN.out]; exact hmN))
      have hlen1 := HL.out m
      have hlen2 := HL.out (m + 1)
      rw [catk_len ls m (by rw [HN.out]; exact hmN)] at hlen2
      obtain ⟨x, hx⟩ : ∃ x, ls.getD m [] = x := ⟨_, rfl⟩
      rw [hx] at hrow hstep hlen2
      obtain ⟨u, hu⟩ : ∃ u, vs.getD m undef = u := ⟨_, rfl⟩
      rw [hu] at hrow hcell hcell2
      obtain ⟨pu, cu, rfl⟩ := shows_form hrow
      have HR := Lib.hid hrow
      have hNI : (N : Int) ≤ 1000000 := by omega
      clear hx hu hcell hrow hn hm
      go_wp2_with (at_builtin; refine stop_of ?_)
      unfold Stop
      refine wpList_appends rfl _ _ _ rfl _ ib _ 1 under_bs hi hz hsz hby rfl A _ _ _ rfl rfl _ (bys x) HG.out (by exact HO.out) (by exact HR.out) (bys_one x) (by rw [bys_len, bys_len]; simp only [maxLen]; omega) (by rw [bys_len, bys_len]; omega) ?_
      intro v2 w3 ho2 hg2
      rw [← hstep.out] at ho2
      go_wp2
      exact ⟨⟨m + 1, by omega, by go_num, ho2, hg2⟩, by simp only [intOf]; omega⟩
    · obtain rfl : m = N := by omega
      have hge : ¬ ((m : Int) < (m : Int)) := by omega
      have hall := catk_all ls
      rw [HN.out] at hall
      rw [hall] at HO
      have hfl : ls.flatten.length ≤ 1000000 := by rw [← hall]; exact HL.out m
      have hfb : ∀ x ∈ ls.flatten, x < 256 := fun x hx => by
        obtain ⟨l, hl1, hl2⟩ := List.mem_flatten.1 hx
        exact HB.out l hl1 x hl2
      have C1 := Lib.hid (fun W v (h : Shows W v (bys ls.flatten)) => rsum_w ls.flatten v W (by omega) hfb h)
      have r2 : wr.rowAt w.heap.size = iv id0 := by rw [Grew.rowAt HG.out _ (by omega)]; exact R0.out
      have f2 : wr.rowFree w.heap.size = true := by rw [Grew.rowFree HG.out _ (by omega)]; exact F0.out
      have hlt2 : w.heap.size < wr.heap.size := by have := HG.out.size; omega
      clear hm hmN hn sA hall hfl hfb
      go_wp2_with (go_at_call 52; refine (C1.out _ _ HO.out.shows).mono ?_; rintro e w' ⟨rfl, δ, rfl⟩)
      refine bodyPost_ret (id_result rfl _ rfl (l := sum ls.flatten) ?_ hsl) rfl ⟨rfl, ?_⟩
      · rw [rowAt_grow_old _ _ _ (by rw [setRow_size]; exact hlt2), rowAt_setRow_free _ _ _ f2]
      · exact (Grew.setRow_new GW.out _ _ (Nat.le_refl _)).grow _
end Go.Proofs.Ytinkdkcmmjfhoaa
/- The document's Leaf. -/
namespace Go.Proofs.Ytinkdkcmmjfhoaa
set_option linter.unusedVariables false
set_option linter.unusedSimpArgs false
open Go.RowKit
set_option maxRecDepth 100000 in
set_option maxHeartbeats 1600000 in
theorem rleaf_w (l : List Nat) (v : Value) (w : World) (hl : l.length ≤ 1000) (hb : ∀ c ∈ l, c < 256) (hv : Shows w v (bys l)) : Calls Try.prog 37 #[v] w fun e w' => e = .returned (.agg (iv (Idb.leaf l).l)) ∧ Grew w w' := by
  obtain ⟨p, c, rfl⟩ := shows_form hv
  rw [bys_len] at hv ⊢
  have HV := Lib.hid hv
  have HB := Lib.hid hb
  clear hv hb
  go_enter Try.func37, Try.ntmps37
  go_wp2_with (go_at_call 57; refine stop_of ?_)
  unfold Stop
  have g0 : Grew w (w.alloc (.cells (iv id0) 24)) := (by repeat (first | with_reducible exact Grew.refl _ | with_reducible apply Grew.alloc | with_reducible apply Grew.grow | with_reducible apply Grew.drew | with_reducible apply Grew.drewN))
  have g1 : Grew (w.alloc (.cells (iv id0) 24)) ((w.alloc (.cells (iv id0) 24)).alloc (.cells #[.int .u8 0] 5)) := (by repeat (first | with_reducible exact Grew.refl _ | with_reducible apply Grew.alloc | with_reducible apply Grew.grow | with_reducible apply Grew.drew | with_reducible apply Grew.drewN))
  have o1 := shows_one (w.alloc (.cells (iv id0) 24)) (.int .u8 0) 5 1
  have o2 := rowsA_two ((w.alloc (.cells (iv id0) 24)).alloc (.cells #[.int .u8 0] 5)) (.slice (some ⟨w.heap.size + 1, 0, none⟩) 1 1) (.slice p l.length c) [0] l (by rw [World.size_alloc] at o1; exact o1) (HV.out.grew (g0.trans g1))
  rw [World.size_alloc, World.size_alloc] at o2
  have hfl : ([[0], l] : List (List Nat)).flatten = 0 :: l := by simp
  refine (rof_w [[0], l] _ _ ?_ (by simp) (fun k => by match k with
    | 0 => simp [catk]
    | 1 => simp [catk]
    | k + 2 => simp [catk]; omega) o2).mono ?_
  · intro l' hl' x hx
    simp only [List.mem_cons, List.not_mem_nil, or_false] at hl'
    rcases hl' with rfl | rfl
    · simp only [List.mem_cons, List.not_mem_nil, or_false] at hx; omega
    · exact HB.out x hx
  · rw [hfl]
    rintro e w2 ⟨rfl, hg⟩
    have hsl := sum_len (0 :: l)
    have hgw : Grew w w2 := (show Grew w _ from (by repeat (first | with_reducible exact Grew.refl _ | with_reducible apply Grew.alloc | with_reducible apply Grew.grow | with_reducible apply Grew.drew | with_reducible apply Grew.drewN))).trans hg
    have r2 : w2.rowFree w.heap.size = true := by rw [Grew.rowFree hg _ (by simp; omega)]; simp [go_sem]
    have r1 : w2.rowAt w.heap.size = iv id0 := by rw [Grew.rowAt hg _ (by simp; omega)]; simp [go_sem]
    have hlt : w.heap.size < w2.heap.size := by have := hg.size; simp at this; omega
    have HG := Lib.hid hgw
    clear hg hgw o1 o2 g0 g1
    go_wp2
    refine bodyPost_ret (id_result rfl _ rfl (l := Go.Proofs.Ytinkdkcmmjfhoaa.sum (0 :: l)) ?_ hsl) rfl ⟨rfl, ?_⟩
    · rw [rowAt_setRow_free _ _ _ r2]
    · exact Grew.setRow_new HG.out _ _ (Nat.le_refl _)
end Go.Proofs.Ytinkdkcmmjfhoaa
/- slices.Index, Contains of ids; link's leaf, mapped; the document's leaves. -/
namespace Go.Proofs.Ytinkdkcmmjfhoaa
set_option linter.unusedVariables false
set_option linter.unusedSimpArgs false
open Go.RowKit
theorem ieq_comm (a b : List Nat) : ieq a b = ieq b a := by
  unfold ieq
  by_cases h : a = b
  · rw [decide_eq_true h, decide_eq_true h.symm]
  · rw [decide_eq_false h, decide_eq_false fun e => h e.symm]
def anyB (ls : List Idb) (id : Idb) : Bool := ls.any fun x => ieq x.l id.l
theorem anyB_at {ls : List Idb} {id x : Idb} {k : Nat} (hx : ls[k]? = some x) (h : ieq x.l id.l = true) : anyB ls id = true := List.any_eq_true.2 ⟨x, List.mem_of_getElem? hx, h⟩
theorem anyB_no {ls : List Idb} {id : Idb} (h : ∀ (k : Nat) (x : Idb), ls[k]? = some x → ieq x.l id.l = false) : anyB ls id = false := by
  cases hb : anyB ls id
  · rfl
  · obtain ⟨x, hx, hxi⟩ := List.any_eq_true.1 hb
    obtain ⟨k, hk, rfl⟩ := List.getElem_of_mem hx
    rw [h k _ (List.getElem?_eq_getElem hk)] at hxi
    cases hxi
set_option maxRecDepth 100000 in
set_option maxHeartbeats 3200000 in
theorem index_w (ls : List Idb) (id : Idb) (v : Value) (w : World) (hl : ls.length ≤ 100000) (hv : ShowsI w v ls) :
    Calls Try.prog 48 #[v, .agg (iv id.l)] w fun e w' => ∃ r : Int, e = .returned (.int .i64 r) ∧ decide (0 ≤ r) = anyB ls id ∧ Grew w w' := by
  obtain ⟨p, c, rfl⟩ := showsI_form hv
  have HV := Lib.hid hv
  obtain ⟨N, hN⟩ : ∃ N, ls.length = N := ⟨_, rfl⟩
  have HN := Lib.hid hN
  rw [hN] at hl HV ⊢
  have hlI : (N : Int) ≤ 100000 := by omega
  have hil := id.len
  clear hv hN hl
  go_enter Try.func48, Try.ntmps48
  go_wp2
  obtain ⟨A, hA⟩ : ∃ A, w.alloc (.cells (iv id.l) 24) = A := ⟨_, rfl⟩
  have gA : Grew w A := by rw [← hA]; exact (by repeat (first | with_reducible exact Grew.refl _ | with_reducible apply Grew.alloc | with_reducible apply Grew.grow | with_reducible apply Grew.drew | with_reducible apply Grew.drewN))
  have rA : A.rowAt w.heap.size = iv id.l := by rw [← hA]; simp [go_sem]
  have zA : w.heap.size < A.heap.size := by rw [← hA]; simp
  rw [hA]
  have GA := Lib.hid gA
  clear hA gA
  go_loopw [8] (fun i wr => ∃ k : Nat, k ≤ N ∧ i = .int .i64 k ∧ (∀ (j : Nat) (x : Idb), j < k → ls[j]? = some x → ieq x.l id.l = false) ∧ Grew A wr) (fun i _ => N - (intOf i).toNat)
  case atStart => exact ⟨0, by omega, rfl, by intro j x h; omega, Grew.refl _⟩
  case round =>
    obtain ⟨k, hk, rfl, hno, hg⟩ := hrel
    have HNO := Lib.hid hno
    have HG := Lib.hid hg
    have rW : wr.rowAt w.heap.size = iv id.l := by rw [Grew.rowAt hg _ zA]; exact rA
    have zW : w.heap.size < wr.heap.size := Nat.lt_of_lt_of_le zA hg.size
    have GW := Lib.hid (GA.out.trans hg)
    clear hno hg rA zA
    by_cases hkN : k < N
    · have hlt : (k : Int) < (N : Int) := by omega
      obtain ⟨x, hx⟩ : ∃ x, ls[k]? = some x := ⟨_, List.getElem?_eq_getElem (by rw [HN.out]; exact hkN)⟩
      have hvv := HV.out
      rw [← HN.out] at hvv
      obtain ⟨b, o, rfl, _, hcc, hb, hat⟩ := showsI_some hvv (by rw [HN.out]; omega)
      have hxl := x.len
      have ql : ∀ δ, (rowLoad 24 (.pointer (some ⟨b, o + k * 32, none⟩))).run Try.prog (wr.grow δ) = .ok (.value (.agg (iv x.l))) (wr.grow δ) := fun δ => load_idm (World.rangeAt.grew (hat k x hx) (GW.out.trans ⟨δ, rfl⟩))
      have HX := Lib.hid hx
      clear hvv hat hcc hx
      cases he : ieq id.l x.l
      · have HE := Lib.hid (show ieq x.l id.l = false by rw [ieq_comm]; exact he)
        go_wp2
        refine wp_region_flow (by kernel_rfl) ?_
        intro δf
        apply wpFlow_quiets [0,1,2,3,4,5] (by decide +kernel) (by decide +kernel) (by kernel_rfl) (by intro _ _ _ d _ h; cases d <;> exact h) _
        · intro A hA δ'
          simp only [pickOps_cons, pickOps_nil, pick1_zero, pick1_succ]
          repeat (go_big_quiet_step ((fail)))
          exact wpQuiet_nil hA.out.symm
        refine wpFlow_end (by decide +kernel) (by kernel_rfl) ?_
        intro δf
        go_wp2
        exact ⟨⟨k + 1, by omega, by go_num, fun j y hj hy => by
          rcases Nat.lt_or_ge j k with h | h
          · exact HNO.out j y h hy
          · obtain rfl : j = k := by omega
            rw [HX.out] at hy
            cases hy
            exact HE.out, HG.out.trans (by repeat (first | with_reducible exact Grew.refl _ | with_reducible apply Grew.alloc | with_reducible apply Grew.grow | with_reducible apply Grew.drew | with_reducible apply Grew.drewN))⟩, by simp only [intOf]; omega⟩
      · have HE := Lib.hid (show ieq x.l id.l = true by rw [ieq_comm]; exact he)
        go_wp2
        refine wp_region_flow (by kernel_rfl) ?_
        intro δf
        apply wpFlow_quiets [0,1,2,3,4,5] (by decide +kernel) (by decide +kernel) (by kernel_rfl) (by intro _ _ _ d _ h; cases d <;> exact h) _
        · intro A hA δ'
          simp only [pickOps_cons, pickOps_nil, pick1_zero, pick1_succ]
          repeat (go_big_quiet_step ((fail)))
          exact wpQuiet_nil hA.out.symm
        refine wpFlow_end (by decide +kernel) (by kernel_rfl) ?_
        intro δf
        go_wp2
        go_ret
        exact ⟨_, rfl, by rw [anyB_at HX.out HE.out]; exact decide_eq_true (by omega), GW.out.trans (by repeat (first | with_reducible exact Grew.refl _ | with_reducible apply Grew.alloc | with_reducible apply Grew.grow | with_reducible apply Grew.drew | with_reducible apply Grew.drewN))⟩
    · obtain rfl : k = N := by omega
      have hge : ¬ ((k : Int) < (k : Int)) := by omega
      clear hk hkN
      go_wp2
      go_ret
      refine ⟨-1, rfl, ?_, GW.out⟩
      rw [anyB_no (fun j x hx => HNO.out j x (by have := (List.getElem?_eq_some_iff.1 hx).1; rw [HN.out] at this; exact this) hx)]
      rfl
theorem contains_w (ls : List Idb) (id : Idb) (v : Value) (w : World) (hl : ls.length ≤ 100000) (hv : ShowsI w v ls) :
    Calls Try.prog 27 #[v, .agg (iv id.l)] w fun e w' => e = .returned (.bool (anyB ls id)) ∧ Grew w w' := by
  have hil := id.len
  have HV := Lib.hid hv
  clear hv
  go_enter Try.func27, Try.ntmps27
  go_wp2_with (go_at_call 48; refine (index_w ls id v _ hl (HV.out.grew (by repeat (first | with_reducible exact Grew.refl _ | with_reducible apply Grew.alloc | with_reducible apply Grew.grow | with_reducible apply Grew.drew | with_reducible apply Grew.drewN)))).mono ?_; rintro e w' ⟨r, rfl, hr, δ, rfl⟩)
  go_ret
  exact ⟨by rw [← hr]; rfl, (by repeat (first | with_reducible exact Grew.refl _ | with_reducible apply Grew.alloc | with_reducible apply Grew.grow | with_reducible apply Grew.drew | with_reducible apply Grew.drewN))⟩
theorem shows_range {w : World} {b o : Nat} {x : Idb} (hb : b < w.heap.size) (h : w.rangeAt b o x.cs) : Shows w (.slice (some ⟨b, o, none⟩) 32 32) (bys x.l) := by
  have : Shows w (.slice (some ⟨b, o, none⟩) (bys x.l).length 32) (bys x.l) := .inl ⟨b, o, 32, rfl, hb, h⟩
  rwa [bys_len, x.len] at this
theorem shows_box {w : World} {g : Nat} {x : Idb} (hg : g < w.heap.size) (h : w.rowAt g = iv x.l) : Shows w (.slice (some ⟨g, 0, none⟩) 32 32) (bys x.l) := by
  have := shows_row hg h
  rwa [x.len] at this
set_option maxRecDepth 100000 in
set_option maxHeartbeats 1600000 in
theorem lleaf_w (x : Idb) (w : World) : Calls Try.prog 30 #[.agg (iv x.l)] w fun e w' => e = .returned (.agg (iv (Idb.leaf x.l).l)) ∧ Grew w w' := by
  have hxl := x.len
  have hrl := (Idb.leaf x.l).len
  obtain ⟨y, hy⟩ : ∃ y, Idb.leaf x.l = y := ⟨_, rfl⟩
  have C := Lib.hid (fun W v (h : Shows W v (bys x.l)) => leaf_w x.l v W (by omega) x.lt h)
  rw [hy] at C hrl ⊢
  clear hy
  go_enter Try.func30, Try.ntmps30
  go_wp2_with (go_at_call 21; refine stop_of ?_)
  unfold Stop
  refine Calls_abs ?_
  intro X hX
  have gX : Grew w X := by rw [hX]; exact (by repeat (first | with_reducible exact Grew.refl _ | with_reducible apply Grew.alloc | with_reducible apply Grew.grow | with_reducible apply Grew.drew | with_reducible apply Grew.drewN))
  have r0 : X.rowAt w.heap.size = iv x.l := by rw [hX]; simp [go_sem]
  have z0 : w.heap.size < X.heap.size := by rw [hX]; simp; omega
  have r1 : X.rowAt (w.heap.size + 1) = iv id0 := by rw [hX]; simp [go_sem]
  have f1 : X.rowFree (w.heap.size + 1) = true := by rw [hX]; simp [go_sem]
  have z1 : w.heap.size + 1 < X.heap.size := by rw [hX]; simp
  have GX := Lib.hid gX
  clear hX gX
  refine (C.out _ _ (shows_box z0 r0)).mono ?_
  rintro e w' ⟨rfl, δ, rfl⟩
  have z2 : w.heap.size + 1 < X.heap.size + δ.n := by omega
  go_wp2
  refine bodyPost_ret (id_res rfl _ rfl (x := y) (by simp [go_sem, r1, f1, z1])) rfl ⟨rfl, ?_⟩
  exact (Grew.setRow_new GX.out (w.heap.size + 1) _ (by omega)).grow δ
end Go.Proofs.Ytinkdkcmmjfhoaa
/- link's mapped, Root, Path, Check, Leads; the document's leaves, Root, Path, Check, Leads. -/
namespace Go.Proofs.Ytinkdkcmmjfhoaa
set_option linter.unusedVariables false
set_option linter.unusedSimpArgs false
open Go.RowKit
section
variable (ρ : Operand → Value) (d : Option Tmp) (n : Tmp) (y : Operand) (t : TypeId) (p : String) (a : Array Edge) (g : Option (Nat × Bool)) (A : Array TypeId)
@[go_sem ↓] theorem ex_callVal1 : execOp ρ ⟨d, .call { callee := .value (.tmp n), args := #[y], argTypes := A }, t, p, a, g⟩ = callVal (ρ (.tmp n)) #[ρ y] := by simp [execOp, callVal, resolve]
end
@[go_sem] theorem run_callVal1 (x : Value) (w : World) : (callVal (.func (.func 30) #[] #[]) #[x]).run Try.prog w = .ok (.enter 30 #[x]) w := by kernel_rfl
theorem leavesL_take (ls : List Idb) (k : Nat) (x : Idb) (h : ls[k]? = some x) : leavesL (ls.take (k + 1)) = leavesL (ls.take k) ++ [Idb.leaf x.l] := by
  unfold leavesL
  rw [List.take_add_one, h, List.map_append]
  rfl
set_option maxRecDepth 100000 in
set_option maxHeartbeats 3200000 in
theorem mapped_w (ls : List Idb) (v : Value) (w : World) (hl : ls.length ≤ 100000) (hv : ShowsI w v ls) :
    Calls Try.prog 29 #[v, .func (.func 30) #[] #[]] w fun e w' => ∃ v', e = .returned v' ∧ OwnE 32 Idb.cs w' w.heap.size 24 v' (leavesL ls) ∧ Grew w w' := by
  obtain ⟨p, c, rfl⟩ := showsI_form hv
  obtain ⟨i, hi, hz, hsz, hby⟩ := info_id
  have HV := Lib.hid hv
  obtain ⟨N, hN⟩ : ∃ N, ls.length = N := ⟨_, rfl⟩
  have HN := Lib.hid hN
  rw [hN] at hl HV ⊢
  have hlI : (N : Int) ≤ 100000 := by omega
  clear hv hN
  go_enter Try.func29, Try.ntmps29
  go_wp2
  go_loopw [10, 5] (fun i v wr => ∃ k : Nat, k ≤ N ∧ i = .int .i64 k ∧ OwnE 32 Idb.cs wr w.heap.size 24 v (leavesL (ls.take k)) ∧ Grew w wr) (fun i _ _ => N - (intOf i).toNat)
  case atStart => exact ⟨0, by omega, rfl, OwnE.nil _ _ _, Grew.refl _⟩
  case round =>
    obtain ⟨k, hk, rfl, ho, hg⟩ := hrel
    have HO := Lib.hid ho
    have HG := Lib.hid hg
    clear ho hg
    by_cases hkN : k < N
    · have hlt : (k : Int) < (N : Int) := by omega
      obtain ⟨x, hx⟩ : ∃ x, ls[k]? = some x := ⟨_, List.getElem?_eq_getElem (by rw [HN.out]; exact hkN)⟩
      have hvv := HV.out
      rw [← HN.out] at hvv
      obtain ⟨b, o, rfl, _, hcc, hb, hat⟩ := showsI_some hvv (by rw [HN.out]; omega)
      have hxl := x.len
      have ql := load_idm (World.rangeAt.grew (hat k x hx) HG.out)
      have HST := Lib.hid (leavesL_take ls k x hx)
      have hlen : (leavesL (ls.take k)).length = k := by rw [leavesL_len, List.length_take, HN.out]; omega
      have hrl := (Idb.leaf x.l).len
      have CL := Lib.hid (fun W => lleaf_w x W)
      obtain ⟨y, hy⟩ : ∃ y, Idb.leaf x.l = y := ⟨_, rfl⟩
      rw [hy] at HST hrl CL
      have qa : ∀ C t, (rowLoad 24 (.pointer (some ⟨b, o + k * 32, none⟩))).run Try.prog (wr.alloc (.cells C t)) = .ok (.value (.agg (iv x.l))) (wr.alloc (.cells C t)) := fun C t => load_idm (World.rangeAt.grew (hat k x hx) (HG.out.trans (by repeat (first | with_reducible exact Grew.refl _ | with_reducible apply Grew.alloc | with_reducible apply Grew.grow | with_reducible apply Grew.drew | with_reducible apply Grew.drewN))))
      clear hvv hat hcc hx hy
      go_wp2_with (first | (go_at_call 30; refine (CL.out _).mono ?_; rintro e w' ⟨rfl, δ, rfl⟩) | (at_builtin; refine stop_of ?_))
      unfold Stop
      refine wpList_abs ?_
      intro X hX
      have gX : Grew wr X := by rw [hX]; exact (by repeat (first | with_reducible exact Grew.refl _ | with_reducible apply Grew.alloc | with_reducible apply Grew.grow | with_reducible apply Grew.drew | with_reducible apply Grew.drewN))
      have hsh : ShowsE 32 Idb.cs X (.slice (some ⟨wr.heap.size + 1 + δ.n, 0, none⟩) 1 1) [y] := by
        have := showsE_one_g Idb.cs_len (wr.alloc (.cells (iv x.l) 24)) δ y 24 1 (by omega)
        rw [World.size_alloc] at this
        rw [hX]
        exact this
      have GX := Lib.hid (HG.out.trans gX)
      have HS := Lib.hid hsh
      have HO2 := Lib.hid (HO.out.grew gX)
      clear hX gX hsh
      refine wpList_appendE2 Idb.cs_len (by decide) rfl _ _ _ rfl _ i _ 32 under_ids hi hz hsz hby id0_cells cs_one w _ w.heap.size _ _ rfl rfl _ [y] GX.out (Nat.le_refl _) GX.out.size (by exact HO2.out) (by exact HS.out) (by rw [hlen]; simp only [maxLen, List.length_cons, List.length_nil]; omega) (by rw [hlen]; simp only [List.length_cons, List.length_nil]; omega) ?_
      intro v' w2 ho' hg'
      rw [← HST.out] at ho'
      have HO3 := Lib.hid ho'
      have HG3 := Lib.hid hg'
      clear ho' hg' HO2 HS GX HO
      go_wp2
      exact ⟨⟨k + 1, by omega, by go_num, HO3.out, HG3.out⟩, by simp only [intOf]; omega⟩
    · obtain rfl : k = N := by omega
      have hge : ¬ ((k : Int) < (k : Int)) := by omega
      rw [List.take_of_length_le (by rw [HN.out]; omega)] at HO
      clear hk hkN
      go_wp2
      go_ret
      exact ⟨_, rfl, HO.out, HG.out⟩
set_option maxRecDepth 100000 in
set_option maxHeartbeats 3200000 in
theorem rleaves_w (ls : List Idb) (v : Value) (w : World) (hl : ls.length ≤ 100000) (hv : ShowsI w v ls) :
    Calls Try.prog 32 #[v] w fun e w' => ∃ v', e = .returned v' ∧ OwnE 32 Idb.cs w' w.heap.size 24 v' (leavesL ls) ∧ Grew w w' := by
  obtain ⟨p, c, rfl⟩ := showsI_form hv
  obtain ⟨i, hi, hz, hsz, hby⟩ := info_id
  have HV := Lib.hid hv
  obtain ⟨N, hN⟩ : ∃ N, ls.length = N := ⟨_, rfl⟩
  have HN := Lib.hid hN
  rw [hN] at hl HV ⊢
  have hlI : (N : Int) ≤ 100000 := by omega
  clear hv hN
  go_enter Try.func32, Try.ntmps32
  go_wp2
  go_loopw [4, 3] (fun i v wr => ∃ k : Nat, k ≤ N ∧ i = .int .i64 k ∧ OwnE 32 Idb.cs wr w.heap.size 24 v (leavesL (ls.take k)) ∧ Grew w wr) (fun i _ _ => N - (intOf i).toNat)
  case atStart => exact ⟨0, by omega, rfl, OwnE.nil _ _ _, Grew.refl _⟩
  case round =>
    obtain ⟨k, hk, rfl, ho, hg⟩ := hrel
    have HO := Lib.hid ho
    have HG := Lib.hid hg
    clear ho hg
    by_cases hkN : k < N
    · have hlt : (k : Int) < (N : Int) := by omega
      obtain ⟨x, hx⟩ : ∃ x, ls[k]? = some x := ⟨_, List.getElem?_eq_getElem (by rw [HN.out]; exact hkN)⟩
      have hvv := HV.out
      rw [← HN.out] at hvv
      obtain ⟨b, o, rfl, _, hcc, hb, hat⟩ := showsI_some hvv (by rw [HN.out]; omega)
      have hxl := x.len
      have HSL := Lib.hid (shows_range (Nat.lt_of_lt_of_le hb HG.out.size) (World.rangeAt.grew (hat k x hx) HG.out))
      have HST := Lib.hid (leavesL_take ls k x hx)
      have hlen : (leavesL (ls.take k)).length = k := by rw [leavesL_len, List.length_take, HN.out]; omega
      have hrl := (Idb.leaf x.l).len
      have CL := Lib.hid (fun W v (h : Shows W v (bys x.l)) => rleaf_w x.l v W (by omega) x.lt h)
      obtain ⟨y, hy⟩ : ∃ y, Idb.leaf x.l = y := ⟨_, rfl⟩
      rw [hy] at HST hrl CL
      have hcl := World.rangeAt.grew (hat k x hx) HG.out
      have hcell0 : ∀ j u, x.cs[j]? = some u → wr.cell? ⟨b, o + k * 32 + j, none⟩ = some u := hcl
      have HC0 := Lib.hid hcell0
      clear hvv hat hcc hx hy hcl hcell0
      go_wp2_with (first | (go_at_call 37; refine (CL.out _ _ HSL.out).mono ?_; rintro e w' ⟨rfl, δ, rfl⟩) | (at_builtin; refine stop_of ?_))
      unfold Stop
      refine wpList_abs ?_
      intro X hX
      have gX : Grew wr X := by rw [hX]; exact (by repeat (first | with_reducible exact Grew.refl _ | with_reducible apply Grew.alloc | with_reducible apply Grew.grow | with_reducible apply Grew.drew | with_reducible apply Grew.drewN))
      have hsh : ShowsE 32 Idb.cs X (.slice (some ⟨wr.heap.size + δ.n, 0, none⟩) 1 1) [y] := by
        rw [hX]
        exact showsE_one_g Idb.cs_len wr δ y 24 1 (by omega)
      have GX := Lib.hid (HG.out.trans gX)
      have HS := Lib.hid hsh
      have HO2 := Lib.hid (HO.out.grew gX)
      clear hX gX hsh
      refine wpList_appendE2 Idb.cs_len (by decide) rfl _ _ _ rfl _ i _ 32 under_ids hi hz hsz hby id0_cells cs_one w _ w.heap.size _ _ rfl rfl _ [y] GX.out (Nat.le_refl _) GX.out.size (by exact HO2.out) (by exact HS.out) (by rw [hlen]; simp only [maxLen, List.length_cons, List.length_nil]; omega) (by rw [hlen]; simp only [List.length_cons, List.length_nil]; omega) ?_
      intro v' w2 ho' hg'
      rw [← HST.out] at ho'
      have HO3 := Lib.hid ho'
      have HG3 := Lib.hid hg'
      clear ho' hg' HO2 HS GX HO
      go_wp2
      exact ⟨⟨k + 1, by omega, by go_num, HO3.out, HG3.out⟩, by simp only [intOf]; omega⟩
    · obtain rfl : k = N := by omega
      have hge : ¬ ((k : Int) < (k : Int)) := by omega
      rw [List.take_of_length_le (by rw [HN.out]; omega)] at HO
      clear hk hkN
      go_wp2
      go_ret
      exact ⟨_, rfl, HO.out, HG.out⟩
end Go.Proofs.Ytinkdkcmmjfhoaa
/- link's Root, Path, Check, Leads; the document's. -/
namespace Go.Proofs.Ytinkdkcmmjfhoaa
set_option linter.unusedVariables false
set_option linter.unusedSimpArgs false
open Go.RowKit
set_option maxRecDepth 100000 in
set_option maxHeartbeats 3200000 in
theorem lroot_w (ls : List Idb) (v : Value) (w : World) (hl : ls.length ≤ 100000) (hv : ShowsI w v ls) :
    Calls Try.prog 18 #[v] w fun e w' => e = .returned (.agg (iv (root (leavesL ls)).l)) ∧ Grew w w' := by
  have HV := Lib.hid hv
  clear hv
  have hrl := (root (leavesL ls)).len
  have C := Lib.hid (fun W v (h : ShowsI W v (leavesL ls)) => root_w _ (leavesL ls) v W (Nat.le_refl _) (by rw [leavesL_len]; omega) h)
  obtain ⟨y, hy⟩ : ∃ y, root (leavesL ls) = y := ⟨_, rfl⟩
  rw [hy] at C hrl ⊢
  clear hy
  go_enter Try.func18, Try.ntmps18
  go_wp2_with (go_at_call 29; refine stop_of ?_)
  unfold Stop
  refine Calls_abs ?_
  intro X hX
  have gX : Grew w X := by rw [hX]; exact (by repeat (first | with_reducible exact Grew.refl _ | with_reducible apply Grew.alloc | with_reducible apply Grew.grow | with_reducible apply Grew.drew | with_reducible apply Grew.drewN))
  have r0 : X.rowAt w.heap.size = iv id0 := by rw [hX]; simp [go_sem]
  have f0 : X.rowFree w.heap.size = true := by rw [hX]; simp [go_sem]
  have z0 : w.heap.size < X.heap.size := by rw [hX]; simp
  have GX := Lib.hid gX
  clear hX gX
  refine (mapped_w ls v X hl (HV.out.grew GX.out)).mono ?_
  rintro e W1 ⟨v1, rfl, ho, hg⟩
  have r1 : W1.rowAt w.heap.size = iv id0 := by rw [Grew.rowAt hg _ z0]; exact r0
  have f1 : W1.rowFree w.heap.size = true := by rw [Grew.rowFree hg _ z0]; exact f0
  have z1 : w.heap.size < W1.heap.size := Nat.lt_of_lt_of_le z0 hg.size
  have HS := Lib.hid (ho.shows Idb.cs_len)
  have G1 := Lib.hid (GX.out.trans hg)
  clear ho hg r0 f0 z0 GX
  go_wp2_with (go_at_call 34; refine stop_of ?_)
  unfold Stop
  refine (C.out _ _ HS.out).mono ?_
  rintro e w' ⟨rfl, δ, rfl⟩
  have z2 : w.heap.size < W1.heap.size + δ.n := by omega
  go_wp2
  refine bodyPost_ret (id_res rfl _ rfl (x := y) (by simp [go_sem, r1, f1, z1])) rfl ⟨rfl, ?_⟩
  first
  | exact (Grew.setRow_new G1.out w.heap.size _ (Nat.le_refl _)).grow δ
  | exact Grew.setRow_new (G1.out.grow δ) w.heap.size _ (Nat.le_refl _)
set_option maxRecDepth 100000 in
set_option maxHeartbeats 3200000 in
theorem rlroot_w (ls : List Idb) (v : Value) (w : World) (hl : ls.length ≤ 100000) (hv : ShowsI w v ls) :
    Calls Try.prog 16 #[v] w fun e w' => e = .returned (.agg (iv (root (leavesL ls)).l)) ∧ Grew w w' := by
  have HV := Lib.hid hv
  clear hv
  have hrl := (root (leavesL ls)).len
  have C := Lib.hid (fun W v (h : ShowsI W v (leavesL ls)) => rroot_w _ (leavesL ls) v W (Nat.le_refl _) (by rw [leavesL_len]; omega) h)
  obtain ⟨y, hy⟩ : ∃ y, root (leavesL ls) = y := ⟨_, rfl⟩
  rw [hy] at C hrl ⊢
  clear hy
  go_enter Try.func16, Try.ntmps16
  go_wp2_with (go_at_call 32; refine stop_of ?_)
  unfold Stop
  refine Calls_abs ?_
  intro X hX
  have gX : Grew w X := by rw [hX]; exact (by repeat (first | with_reducible exact Grew.refl _ | with_reducible apply Grew.alloc | with_reducible apply Grew.grow | with_reducible apply Grew.drew | with_reducible apply Grew.drewN))
  have r0 : X.rowAt w.heap.size = iv id0 := by rw [hX]; simp [go_sem]
  have f0 : X.rowFree w.heap.size = true := by rw [hX]; simp [go_sem]
  have z0 : w.heap.size < X.heap.size := by rw [hX]; simp
  have GX := Lib.hid gX
  clear hX gX
  refine (rleaves_w ls v X hl (HV.out.grew GX.out)).mono ?_
  rintro e W1 ⟨v1, rfl, ho, hg⟩
  have r1 : W1.rowAt w.heap.size = iv id0 := by rw [Grew.rowAt hg _ z0]; exact r0
  have f1 : W1.rowFree w.heap.size = true := by rw [Grew.rowFree hg _ z0]; exact f0
  have z1 : w.heap.size < W1.heap.size := Nat.lt_of_lt_of_le z0 hg.size
  have HS := Lib.hid (ho.shows Idb.cs_len)
  have G1 := Lib.hid (GX.out.trans hg)
  clear ho hg r0 f0 z0 GX
  go_wp2_with (go_at_call 33; refine stop_of ?_)
  unfold Stop
  refine (C.out _ _ HS.out).mono ?_
  rintro e w' ⟨rfl, δ, rfl⟩
  have z2 : w.heap.size < W1.heap.size + δ.n := by omega
  go_wp2
  refine bodyPost_ret (id_res rfl _ rfl (x := y) (by simp [go_sem, r1, f1, z1])) rfl ⟨rfl, ?_⟩
  first
  | exact (Grew.setRow_new G1.out w.heap.size _ (Nat.le_refl _)).grow δ
  | exact Grew.setRow_new (G1.out.grow δ) w.heap.size _ (Nat.le_refl _)
theorem pathOk_leaves (ls : List Idb) (i : Int) : pathOk (leavesL ls) i = pathOk ls i := by unfold pathOk; rw [leavesL_len]
set_option maxRecDepth 100000 in
set_option maxHeartbeats 3200000 in
theorem lpath_w (ls : List Idb) (i : Int) (v : Value) (w : World) (hl : ls.length ≤ 100000) (hv : ShowsI w v ls) :
    Calls Try.prog 14 #[v, .int .i64 i] w fun e w' => ∃ v', e = .returned (.tuple #[v', .bool (pathOk ls i)]) ∧ OwnE 32 Idb.cs w' w.heap.size 24 v' (pathOf (leavesL ls) i) ∧ Grew w w' := by
  have HV := Lib.hid hv
  clear hv
  go_enter Try.func14, Try.ntmps14
  go_wp2_with (go_at_call 29; refine stop_of ?_)
  unfold Stop
  refine (mapped_w ls v _ hl (HV.out.grew (by repeat (first | with_reducible exact Grew.refl _ | with_reducible apply Grew.alloc | with_reducible apply Grew.grow | with_reducible apply Grew.drew | with_reducible apply Grew.drewN)))).mono ?_
  rintro e W1 ⟨v1, rfl, ho, hg⟩
  have HS := Lib.hid (ho.shows Idb.cs_len)
  have G1 := Lib.hid hg
  clear ho hg
  go_wp2_with (go_at_call 28; refine stop_of ?_)
  unfold Stop
  refine (path_w (leavesL ls) i v1 W1 HS.out).mono ?_
  rintro e W2 ⟨v2, rfl, ho, hg⟩
  have HO := Lib.hid (ho.base G1.out.size)
  have G2 := Lib.hid (G1.out.trans hg)
  rw [pathOk_leaves]
  clear ho hg
  go_wp2
  go_ret2
  exact ⟨_, rfl, HO.out, G2.out⟩
set_option maxRecDepth 100000 in
set_option maxHeartbeats 3200000 in
theorem rlpath_w (ls : List Idb) (i : Int) (v : Value) (w : World) (hl : ls.length ≤ 100000) (hv : ShowsI w v ls) :
    Calls Try.prog 15 #[v, .int .i64 i] w fun e w' => ∃ v', e = .returned (.tuple #[v', .bool (pathOk ls i)]) ∧ OwnE 32 Idb.cs w' w.heap.size 24 v' (pathOf (leavesL ls) i) ∧ Grew w w' := by
  have HV := Lib.hid hv
  clear hv
  go_enter Try.func15, Try.ntmps15
  go_wp2_with (go_at_call 32; refine stop_of ?_)
  unfold Stop
  refine (rleaves_w ls v _ hl (HV.out.grew (by repeat (first | with_reducible exact Grew.refl _ | with_reducible apply Grew.alloc | with_reducible apply Grew.grow | with_reducible apply Grew.drew | with_reducible apply Grew.drewN)))).mono ?_
  rintro e W1 ⟨v1, rfl, ho, hg⟩
  have HS := Lib.hid (ho.shows Idb.cs_len)
  have G1 := Lib.hid hg
  clear ho hg
  go_wp2_with (go_at_call 31; refine stop_of ?_)
  unfold Stop
  refine (rPath_w (leavesL ls) i v1 W1 HS.out).mono ?_
  rintro e W2 ⟨v2, rfl, ho, hg⟩
  have HO := Lib.hid (ho.base G1.out.size)
  have G2 := Lib.hid (G1.out.trans hg)
  rw [pathOk_leaves]
  clear ho hg
  go_wp2
  go_ret2
  exact ⟨_, rfl, HO.out, G2.out⟩
set_option maxRecDepth 100000 in
set_option maxHeartbeats 3200000 in
theorem lcheck_w (r : Idb) (n i : Int) (x : Idb) (path : List Idb) (v : Value) (w : World) (hv : ShowsI w v path) (hp : path.length ≤ 100000) :
    Calls Try.prog 19 #[.agg (iv r.l), .int .i64 n, .int .i64 i, .agg (iv x.l), v] w fun e w' => e = .returned (.bool (chk r n i (Idb.leaf x.l) path)) ∧ Grew w w' := by
  have HV := Lib.hid hv
  clear hv
  have h1 := r.len
  have h2 := x.len
  have h3 := (Idb.leaf x.l).len
  have CL := Lib.hid (fun W => lleaf_w x W)
  obtain ⟨y, hy⟩ : ∃ y, Idb.leaf x.l = y := ⟨_, rfl⟩
  rw [hy] at CL h3 ⊢
  have CC := Lib.hid (fun W (g : Grew w W) => check_w r n i y path v W (HV.out.grew g) (by omega))
  obtain ⟨B, hB⟩ : ∃ B, chk r n i y path = B := ⟨_, rfl⟩
  rw [hB] at CC ⊢
  clear hy hB
  go_enter Try.func19, Try.ntmps19
  go_wp2
  refine code_abs ?_
  intro Y hY
  have gY : Grew w Y := by rw [hY]; exact (by repeat (first | with_reducible exact Grew.refl _ | with_reducible apply Grew.alloc | with_reducible apply Grew.grow | with_reducible apply Grew.drew | with_reducible apply Grew.drewN))
  have r0 : Y.rowAt w.heap.size = iv r.l := by rw [hY]; simp [go_sem]
  have z0 : w.heap.size < Y.heap.size := by rw [hY]; simp; omega
  have r1 : Y.rowAt (w.heap.size + 1) = iv x.l := by rw [hY]; simp [go_sem]
  have z1 : w.heap.size + 1 < Y.heap.size := by rw [hY]; simp
  have GY := Lib.hid gY
  clear hY gY
  refine wp_region_flow (by kernel_rfl) ?_
  intro δf
  apply wpFlow_quiets [0,1,2,3] (by decide +kernel) (by decide +kernel) (by kernel_rfl) (by intro _ _ _ d _ h; cases d <;> exact h) _
  · intro A hA δ'
    simp only [pickOps_cons, pickOps_nil, pick1_zero, pick1_succ]
    repeat (go_big_quiet_step ((fail)))
    exact wpQuiet_nil hA.out.symm
  apply wpFlow_quiets [4] (by decide +kernel) (by decide +kernel) (by kernel_rfl) (by intro _ _ _ d _ h; cases d <;> exact h) _
  · intro A hA δ'
    simp only [pickOps_cons, pickOps_nil, pick1_zero, pick1_succ]
    repeat (go_big_quiet_step ((go_at_call 30; (with_reducible first | exact Calls.pure_of_g3 (CL.out _) | exact Calls.pure_of_g4 (CL.out _) | exact Calls.pure_of_g (CL.out _) | exact Calls.pure_of_g5 (CL.out _)))))
    exact wpQuiet_nil hA.out.symm
  apply wpFlow_quiets [5] (by decide +kernel) (by decide +kernel) (by kernel_rfl) (by intro _ _ _ d _ h; cases d <;> exact h) _
  · intro A hA δ'
    simp only [pickOps_cons, pickOps_nil, pick1_zero, pick1_succ]
    repeat (go_big_quiet_step ((fail)))
    exact wpQuiet_nil hA.out.symm
  apply wpFlow_quiets [6] (by decide +kernel) (by decide +kernel) (by kernel_rfl) (by intro _ _ _ d _ h; cases d <;> exact h) _
  · intro A hA δ'
    simp only [pickOps_cons, pickOps_nil, pick1_zero, pick1_succ]
    repeat (go_big_quiet_step ((go_at_call 35; (with_reducible first | exact Calls.pure_of_g3 (CC.out _ (GY.out.trans (by repeat (first | with_reducible exact Grew.refl _ | with_reducible apply Grew.alloc | with_reducible apply Grew.grow | with_reducible apply Grew.drew | with_reducible apply Grew.drewN)))) | exact Calls.pure_of_g4 (CC.out _ (GY.out.trans (by repeat (first | with_reducible exact Grew.refl _ | with_reducible apply Grew.alloc | with_reducible apply Grew.grow | with_reducible apply Grew.drew | with_reducible apply Grew.drewN)))) | exact Calls.pure_of_g (CC.out _ (GY.out.trans (by repeat (first | with_reducible exact Grew.refl _ | with_reducible apply Grew.alloc | with_reducible apply Grew.grow | with_reducible apply Grew.drew | with_reducible apply Grew.drewN)))) | exact Calls.pure_of_g5 (CC.out _ (GY.out.trans (by repeat (first | with_reducible exact Grew.refl _ | with_reducible apply Grew.alloc | with_reducible apply Grew.grow | with_reducible apply Grew.drew | with_reducible apply Grew.drewN))))))))
    exact wpQuiet_nil hA.out.symm
  apply wpFlow_quiets [7] (by decide +kernel) (by decide +kernel) (by kernel_rfl) (by intro _ _ _ d _ h; cases d <;> exact h) _
  · intro A hA δ'
    simp only [pickOps_cons, pickOps_nil, pick1_zero, pick1_succ]
    repeat (go_big_quiet_step ((fail)))
    exact wpQuiet_nil hA.out.symm
  refine wpFlow_end (by decide +kernel) (by kernel_rfl) ?_
  intro δf
  go_wp2
  go_ret
  exact ⟨rfl, GY.out.trans (by repeat (first | with_reducible exact Grew.refl _ | with_reducible apply Grew.alloc | with_reducible apply Grew.grow | with_reducible apply Grew.drew | with_reducible apply Grew.drewN))⟩
set_option maxRecDepth 100000 in
set_option maxHeartbeats 3200000 in
theorem rlcheck_w (r : Idb) (n i : Int) (x : Idb) (path : List Idb) (v : Value) (w : World) (hv : ShowsI w v path) (hp : path.length ≤ 100000) :
    Calls Try.prog 20 #[.agg (iv r.l), .int .i64 n, .int .i64 i, .agg (iv x.l), v] w fun e w' => e = .returned (.bool (chk r n i (Idb.leaf x.l) path)) ∧ Grew w w' := by
  have HV := Lib.hid hv
  clear hv
  have h1 := r.len
  have h2 := x.len
  have h3 := (Idb.leaf x.l).len
  have CL := Lib.hid (fun W v (h : Shows W v (bys x.l)) => rleaf_w x.l v W (by omega) x.lt h)
  obtain ⟨y, hy⟩ : ∃ y, Idb.leaf x.l = y := ⟨_, rfl⟩
  rw [hy] at CL h3 ⊢
  have CC := Lib.hid (fun W (g : Grew w W) => rcheck_w r n i y path v W (HV.out.grew g) (by omega))
  obtain ⟨B, hB⟩ : ∃ B, chk r n i y path = B := ⟨_, rfl⟩
  rw [hB] at CC ⊢
  clear hy hB
  go_enter Try.func20, Try.ntmps20
  go_wp2
  refine code_abs ?_
  intro Y hY
  have gY : Grew w Y := by rw [hY]; exact (by repeat (first | with_reducible exact Grew.refl _ | with_reducible apply Grew.alloc | with_reducible apply Grew.grow | with_reducible apply Grew.drew | with_reducible apply Grew.drewN))
  have r0 : Y.rowAt w.heap.size = iv r.l := by rw [hY]; simp [go_sem]
  have z0 : w.heap.size < Y.heap.size := by rw [hY]; simp; omega
  have r1 : Y.rowAt (w.heap.size + 1) = iv x.l := by rw [hY]; simp [go_sem]
  have z1 : w.heap.size + 1 < Y.heap.size := by rw [hY]; simp
  have HS := Lib.hid (shows_box z1 r1)
  have GY := Lib.hid gY
  clear hY gY
  refine wp_region_flow (by kernel_rfl) ?_
  intro δf
  apply wpFlow_quiets [0,1,2,3] (by decide +kernel) (by decide +kernel) (by kernel_rfl) (by intro _ _ _ d _ h; cases d <;> exact h) _
  · intro A hA δ'
    simp only [pickOps_cons, pickOps_nil, pick1_zero, pick1_succ]
    repeat (go_big_quiet_step ((fail)))
    exact wpQuiet_nil hA.out.symm
  apply wpFlow_quiets [4] (by decide +kernel) (by decide +kernel) (by kernel_rfl) (by intro _ _ _ d _ h; cases d <;> exact h) _
  · intro A hA δ'
    simp only [pickOps_cons, pickOps_nil, pick1_zero, pick1_succ]
    repeat (go_big_quiet_step ((go_at_call 37; (with_reducible first | exact Calls.pure_of_g3 (CL.out _ _ (HS.out.grew (by repeat (first | with_reducible exact Grew.refl _ | with_reducible apply Grew.alloc | with_reducible apply Grew.grow | with_reducible apply Grew.drew | with_reducible apply Grew.drewN)))) | exact Calls.pure_of_g4 (CL.out _ _ (HS.out.grew (by repeat (first | with_reducible exact Grew.refl _ | with_reducible apply Grew.alloc | with_reducible apply Grew.grow | with_reducible apply Grew.drew | with_reducible apply Grew.drewN)))) | exact Calls.pure_of_g (CL.out _ _ (HS.out.grew (by repeat (first | with_reducible exact Grew.refl _ | with_reducible apply Grew.alloc | with_reducible apply Grew.grow | with_reducible apply Grew.drew | with_reducible apply Grew.drewN)))) | exact Calls.pure_of_g5 (CL.out _ _ (HS.out.grew (by repeat (first | with_reducible exact Grew.refl _ | with_reducible apply Grew.alloc | with_reducible apply Grew.grow | with_reducible apply Grew.drew | with_reducible apply Grew.drewN))))))))
    exact wpQuiet_nil hA.out.symm
  apply wpFlow_quiets [5] (by decide +kernel) (by decide +kernel) (by kernel_rfl) (by intro _ _ _ d _ h; cases d <;> exact h) _
  · intro A hA δ'
    simp only [pickOps_cons, pickOps_nil, pick1_zero, pick1_succ]
    repeat (go_big_quiet_step ((fail)))
    exact wpQuiet_nil hA.out.symm
  apply wpFlow_quiets [6] (by decide +kernel) (by decide +kernel) (by kernel_rfl) (by intro _ _ _ d _ h; cases d <;> exact h) _
  · intro A hA δ'
    simp only [pickOps_cons, pickOps_nil, pick1_zero, pick1_succ]
    repeat (go_big_quiet_step ((go_at_call 36; (with_reducible first | exact Calls.pure_of_g3 (CC.out _ (GY.out.trans (by repeat (first | with_reducible exact Grew.refl _ | with_reducible apply Grew.alloc | with_reducible apply Grew.grow | with_reducible apply Grew.drew | with_reducible apply Grew.drewN)))) | exact Calls.pure_of_g4 (CC.out _ (GY.out.trans (by repeat (first | with_reducible exact Grew.refl _ | with_reducible apply Grew.alloc | with_reducible apply Grew.grow | with_reducible apply Grew.drew | with_reducible apply Grew.drewN)))) | exact Calls.pure_of_g (CC.out _ (GY.out.trans (by repeat (first | with_reducible exact Grew.refl _ | with_reducible apply Grew.alloc | with_reducible apply Grew.grow | with_reducible apply Grew.drew | with_reducible apply Grew.drewN)))) | exact Calls.pure_of_g5 (CC.out _ (GY.out.trans (by repeat (first | with_reducible exact Grew.refl _ | with_reducible apply Grew.alloc | with_reducible apply Grew.grow | with_reducible apply Grew.drew | with_reducible apply Grew.drewN))))))))
    exact wpQuiet_nil hA.out.symm
  apply wpFlow_quiets [7] (by decide +kernel) (by decide +kernel) (by kernel_rfl) (by intro _ _ _ d _ h; cases d <;> exact h) _
  · intro A hA δ'
    simp only [pickOps_cons, pickOps_nil, pick1_zero, pick1_succ]
    repeat (go_big_quiet_step ((fail)))
    exact wpQuiet_nil hA.out.symm
  refine wpFlow_end (by decide +kernel) (by kernel_rfl) ?_
  intro δf
  go_wp2
  go_ret
  exact ⟨rfl, GY.out.trans (by repeat (first | with_reducible exact Grew.refl _ | with_reducible apply Grew.alloc | with_reducible apply Grew.grow | with_reducible apply Grew.drew | with_reducible apply Grew.drewN))⟩
end Go.Proofs.Ytinkdkcmmjfhoaa
/- link's Leads; the document's. -/
namespace Go.Proofs.Ytinkdkcmmjfhoaa
set_option linter.unusedVariables false
set_option linter.unusedSimpArgs false
open Go.RowKit
def leads (ls : List Idb) (prev id : Idb) : Bool := ieq prev.l id.l || anyB ls id
set_option maxRecDepth 100000 in
set_option maxHeartbeats 3200000 in
theorem leads_w (ls : List Idb) (prev id : Idb) (v : Value) (w : World) (hl : ls.length ≤ 100000) (hv : ShowsI w v ls) :
    Calls Try.prog 11 #[v, .agg (iv prev.l), .agg (iv id.l)] w fun e w' => e = .returned (.bool (leads ls prev id)) ∧ Grew w w' := by
  have HV := Lib.hid hv
  clear hv
  have h1 := prev.len
  have h2 := id.len
  have C := Lib.hid (fun W (g : Grew w W) => contains_w ls id v W hl (HV.out.grew g))
  obtain ⟨B, hB⟩ : ∃ B, anyB ls id = B := ⟨_, rfl⟩
  unfold leads
  rw [hB] at C ⊢
  clear hB
  cases he : ieq prev.l id.l
  · go_enter Try.func11, Try.ntmps11
    go_wp2_with (go_at_call 27; refine (C.out _ (by repeat (first | with_reducible exact Grew.refl _ | with_reducible apply Grew.alloc | with_reducible apply Grew.grow | with_reducible apply Grew.drew | with_reducible apply Grew.drewN))).mono ?_; rintro e w' ⟨rfl, δ, rfl⟩)
    go_ret
    exact ⟨rfl, (by repeat (first | with_reducible exact Grew.refl _ | with_reducible apply Grew.alloc | with_reducible apply Grew.grow | with_reducible apply Grew.drew | with_reducible apply Grew.drewN))⟩
  · go_enter Try.func11, Try.ntmps11
    go_wp2_with (go_at_call 27; refine (C.out _ (by repeat (first | with_reducible exact Grew.refl _ | with_reducible apply Grew.alloc | with_reducible apply Grew.grow | with_reducible apply Grew.drew | with_reducible apply Grew.drewN))).mono ?_; rintro e w' ⟨rfl, δ, rfl⟩)
    go_ret
    exact ⟨rfl, (by repeat (first | with_reducible exact Grew.refl _ | with_reducible apply Grew.alloc | with_reducible apply Grew.grow | with_reducible apply Grew.drew | with_reducible apply Grew.drewN))⟩
set_option maxRecDepth 100000 in
set_option maxHeartbeats 3200000 in
theorem rleads_w (ls : List Idb) (prev id : Idb) (v : Value) (w : World) (hl : ls.length ≤ 100000) (hv : ShowsI w v ls) :
    Calls Try.prog 17 #[v, .agg (iv prev.l), .agg (iv id.l)] w fun e w' => e = .returned (.bool (leads ls prev id)) ∧ Grew w w' := by
  obtain ⟨p, c, rfl⟩ := showsI_form hv
  have HV := Lib.hid hv
  obtain ⟨N, hN⟩ : ∃ N, ls.length = N := ⟨_, rfl⟩
  have HN := Lib.hid hN
  rw [hN] at hl HV ⊢
  have hlI : (N : Int) ≤ 100000 := by omega
  have h1 := prev.len
  have h2 := id.len
  clear hv hN hl
  go_enter Try.func17, Try.ntmps17
  go_wp2
  obtain ⟨A, hA⟩ : ∃ A, (w.alloc (.cells (iv prev.l) 24)).alloc (.cells (iv id.l) 24) = A := ⟨_, rfl⟩
  have gA : Grew w A := by rw [← hA]; exact (by repeat (first | with_reducible exact Grew.refl _ | with_reducible apply Grew.alloc | with_reducible apply Grew.grow | with_reducible apply Grew.drew | with_reducible apply Grew.drewN))
  have r0 : A.rowAt w.heap.size = iv prev.l := by rw [← hA]; simp [go_sem]
  have z0 : w.heap.size < A.heap.size := by rw [← hA]; simp; omega
  have r1 : A.rowAt (w.heap.size + 1) = iv id.l := by rw [← hA]; simp [go_sem]
  have z1 : w.heap.size + 1 < A.heap.size := by rw [← hA]; simp
  rw [hA]
  have GA := Lib.hid gA
  clear hA gA
  go_loopw [7] (fun i wr => ∃ k : Nat, k ≤ N ∧ i = .int .i64 k ∧ (∀ (j : Nat) (x : Idb), j < k → ls[j]? = some x → ieq x.l id.l = false) ∧ Grew A wr) (fun i _ => N - (intOf i).toNat)
  case atStart => exact ⟨0, by omega, rfl, by intro j x h; omega, Grew.refl _⟩
  case round =>
    obtain ⟨k, hk, rfl, hno, hg⟩ := hrel
    have HNO := Lib.hid hno
    have HG := Lib.hid hg
    have s0 : wr.rowAt w.heap.size = iv prev.l := by rw [Grew.rowAt hg _ z0]; exact r0
    have y0 : w.heap.size < wr.heap.size := Nat.lt_of_lt_of_le z0 hg.size
    have s1 : wr.rowAt (w.heap.size + 1) = iv id.l := by rw [Grew.rowAt hg _ z1]; exact r1
    have y1 : w.heap.size + 1 < wr.heap.size := Nat.lt_of_lt_of_le z1 hg.size
    have GW := Lib.hid (GA.out.trans hg)
    clear hno hg r0 r1 z0 z1
    by_cases hkN : k < N
    · have hlt : (k : Int) < (N : Int) := by omega
      obtain ⟨x, hx⟩ : ∃ x, ls[k]? = some x := ⟨_, List.getElem?_eq_getElem (by rw [HN.out]; exact hkN)⟩
      have hvv := HV.out
      rw [← HN.out] at hvv
      obtain ⟨b, o, rfl, _, hcc, hb, hat⟩ := showsI_some hvv (by rw [HN.out]; omega)
      have hxl := x.len
      have ql : ∀ δ, (rowLoad 24 (.pointer (some ⟨b, o + k * 32, none⟩))).run Try.prog (wr.grow δ) = .ok (.value (.agg (iv x.l))) (wr.grow δ) := fun δ => load_idm (World.rangeAt.grew (hat k x hx) (GW.out.trans ⟨δ, rfl⟩))
      have HX := Lib.hid hx
      clear hvv hat hcc hx
      cases he : ieq x.l id.l
      · have HE := Lib.hid he
        go_wp2
        refine wp_region_flow (by kernel_rfl) ?_
        intro δf
        apply wpFlow_quiets [0,1,2,3,4,5] (by decide +kernel) (by decide +kernel) (by kernel_rfl) (by intro _ _ _ d _ h; cases d <;> exact h) _
        · intro A hA δ'
          simp only [pickOps_cons, pickOps_nil, pick1_zero, pick1_succ]
          repeat (go_big_quiet_step ((fail)))
          exact wpQuiet_nil hA.out.symm
        refine wpFlow_end (by decide +kernel) (by kernel_rfl) ?_
        intro δf
        go_wp2
        exact ⟨⟨k + 1, by omega, by go_num, fun j y hj hy => by
          rcases Nat.lt_or_ge j k with h | h
          · exact HNO.out j y h hy
          · obtain rfl : j = k := by omega
            rw [HX.out] at hy
            cases hy
            exact HE.out, HG.out.trans (by repeat (first | with_reducible exact Grew.refl _ | with_reducible apply Grew.alloc | with_reducible apply Grew.grow | with_reducible apply Grew.drew | with_reducible apply Grew.drewN))⟩, by simp only [intOf]; omega⟩
      · have HE := Lib.hid he
        go_wp2
        refine wp_region_flow (by kernel_rfl) ?_
        intro δf
        apply wpFlow_quiets [0,1,2,3,4,5] (by decide +kernel) (by decide +kernel) (by kernel_rfl) (by intro _ _ _ d _ h; cases d <;> exact h) _
        · intro A hA δ'
          simp only [pickOps_cons, pickOps_nil, pick1_zero, pick1_succ]
          repeat (go_big_quiet_step ((fail)))
          exact wpQuiet_nil hA.out.symm
        refine wpFlow_end (by decide +kernel) (by kernel_rfl) ?_
        intro δf
        go_wp2
        go_ret
        exact ⟨by unfold leads; rw [anyB_at HX.out HE.out, Bool.or_true]; rfl, GW.out.trans (by repeat (first | with_reducible exact Grew.refl _ | with_reducible apply Grew.alloc | with_reducible apply Grew.grow | with_reducible apply Grew.drew | with_reducible apply Grew.drewN))⟩
    · obtain rfl : k = N := by omega
      have hge : ¬ ((k : Int) < (k : Int)) := by omega
      have hany := anyB_no (ls := ls) (id := id) (fun j x hx => HNO.out j x (by have := (List.getElem?_eq_some_iff.1 hx).1; rw [HN.out] at this; exact this) hx)
      have HA := Lib.hid hany
      clear hk hkN hany
      go_wp2
      go_ret
      exact ⟨by unfold leads; rw [HA.out, Bool.or_false]; rfl, GW.out⟩
end Go.Proofs.Ytinkdkcmmjfhoaa
/- link's Next. -/
namespace Go.Proofs.Ytinkdkcmmjfhoaa
set_option linter.unusedVariables false
set_option linter.unusedSimpArgs false
open Go.RowKit
theorem flat2 (a b : List Idb) : ([a, b] : List (List Idb)).flatten = a ++ b := by simp
theorem made1I (w : World) (δ : Junk) (a : Idb) : ShowsI ((w.grow δ).alloc (.cells (iv a.l) 24)) (.slice (some ⟨w.heap.size + δ.n, 0, none⟩) 1 1) [a] := showsE_one_g Idb.cs_len w δ a 24 1 (by omega)
theorem made1J (w : World) (a : Idb) : ShowsI (w.alloc (.cells (iv a.l) 24)) (.slice (some ⟨w.heap.size, 0, none⟩) 1 1) [a] := showsE_one Idb.cs_len w a 24 1 (by omega)
theorem rowsI_at2 (X : World) (v v' : Value) (l l' : List Idb) (h : ShowsI X v l) (h' : ShowsI X v' l') :
    Shows (X.alloc (.cells #[v, v'] 22)) (.slice (some ⟨X.heap.size, 0, none⟩) 2 2) [v, v'] ∧ ∀ k, k < 2 → ShowsI (X.alloc (.cells #[v, v'] 22)) ([v, v'].getD k undef) ([l, l'].getD k []) := by
  refine ⟨shows_alloc X [v, v'] _ 2, fun k hk => ?_⟩
  match k, hk with
  | 0, _ => exact h.grew ⟨_, alloc_is_grow X _⟩
  | 1, _ => exact h'.grew ⟨_, alloc_is_grow X _⟩
theorem nextL_many (l : List Idb) (id : Idb) (level : Int) (h : 32 < l.length) : nextL l id level = [] := by unfold nextL; rw [if_pos h]
theorem nextL_none (id : Idb) (level : Int) : nextL [] id level = [id] := by unfold nextL; rw [if_neg (by simp), if_pos (by simp)]
theorem nextL_grow (l : List Idb) (id : Idb) (level : Int) (h : l.length ≤ 32) (h0 : 0 < l.length) : nextL l id level = growL l id (lev level) := by unfold nextL; rw [if_neg (by omega), if_neg (by omega)]
set_option maxRecDepth 100000 in
set_option maxHeartbeats 3200000 in
theorem next_few (ls : List Idb) (id : Idb) (level : Int) (v : Value) (w : World) (hl : ls.length ≤ 1000) (hv : ShowsI w v ls) (hcase : 32 < ls.length ∨ ls.length = 0 ∨ (¬ 32 < ls.length ∧ ¬ ls.length = 0 ∧ level < 1)) :
    Calls Try.prog 10 #[v, .agg (iv id.l), .int .i64 level] w fun e w' => ∃ v', e = .returned v' ∧ ShowsI w' v' (nextL ls id level) ∧ Grew w w' := by
  obtain ⟨p, c, rfl⟩ := showsI_form hv
  have HV := Lib.hid hv
  have h1 := id.len
  have CC := Lib.hid (fun W (g : Grew w W) => cloneI_w ls _ W (HV.out.grew g) (by omega))
  have HCS := Lib.hid hcase
  obtain ⟨N, hN⟩ : ∃ N, ls.length = N := ⟨_, rfl⟩
  have HN := Lib.hid hN
  rw [hN] at HV CC hcase ⊢
  clear hv hN hl
  rcases hcase with h | h | ⟨h2, h3, h4⟩
  · have hI : (32 : Int) < (N : Int) := by omega
    rw [nextL_many ls id level (by rw [HN.out]; exact h)]
    go_enter Try.func10, Try.ntmps10
    go_wp2
    go_ret
    exact ⟨_, rfl, .inr ⟨_, _, rfl, rfl⟩, (by repeat (first | with_reducible exact Grew.refl _ | with_reducible apply Grew.alloc | with_reducible apply Grew.grow | with_reducible apply Grew.drew | with_reducible apply Grew.drewN))⟩
  · subst h
    obtain rfl : ls = [] := List.length_eq_zero_iff.1 HN.out
    rw [nextL_none]
    go_enter Try.func10, Try.ntmps10
    go_wp2
    go_ret
    refine ⟨_, rfl, ?_, (by repeat (first | with_reducible exact Grew.refl _ | with_reducible apply Grew.alloc | with_reducible apply Grew.grow | with_reducible apply Grew.drew | with_reducible apply Grew.drewN))⟩
    have := made1J (w.alloc (.cells (iv id.l) 24)) id
    rw [World.size_alloc] at this
    exact this
  · have hI : ¬ (32 : Int) < (N : Int) := by omega
    have hI2 : ¬ (N : Int) = 0 := by omega
    have hnx : nextL ls id level = ls := by rw [nextL_grow ls id level (by rw [HN.out]; omega) (by rw [HN.out]; omega), lev_low level h4, growL_0]
    rw [hnx]
    clear hnx
    go_enter Try.func10, Try.ntmps10
    go_wp2_with (go_at_call 24; refine stop_of ?_)
    unfold Stop
    refine (CC.out _ (by repeat (first | with_reducible exact Grew.refl _ | with_reducible apply Grew.alloc | with_reducible apply Grew.grow | with_reducible apply Grew.drew | with_reducible apply Grew.drewN))).mono ?_
    rintro e W1 ⟨v1, rfl, ho, hg⟩
    have HO := Lib.hid (ho.shows Idb.cs_len)
    have HG := Lib.hid ((show Grew w _ from (by repeat (first | with_reducible exact Grew.refl _ | with_reducible apply Grew.alloc | with_reducible apply Grew.grow | with_reducible apply Grew.drew | with_reducible apply Grew.drewN))).trans hg)
    clear ho hg
    go_wp2
    go_ret
    exact ⟨_, rfl, HO.out, HG.out⟩
set_option maxRecDepth 100000 in
set_option maxHeartbeats 6400000 in
theorem next_more (ls : List Idb) (id : Idb) (level : Int) (v : Value) (w : World) (h2 : ¬ 32 < ls.length) (h3 : ¬ ls.length = 0) (h4 : ¬ level < 1) (hv : ShowsI w v ls) :
    Calls Try.prog 10 #[v, .agg (iv id.l), .int .i64 level] w fun e w' => ∃ v', e = .returned v' ∧ ShowsI w' v' (nextL ls id level) ∧ Grew w w' := by
  obtain ⟨p, c, rfl⟩ := showsI_form hv
  obtain ⟨b, o, rfl, _, hcc, hb, hat⟩ := showsI_some hv (by omega)
  obtain ⟨i, hi, hz, hsz, hby⟩ := info_id
  have h1 := id.len
  obtain ⟨K, hK⟩ : ∃ K, lev level = K := ⟨_, rfl⟩
  have hKb : 1 ≤ K ∧ K ≤ 31 := by rw [← hK]; unfold lev; omega
  have hKc : level ≤ 31 ∧ level = (K : Int) ∨ ¬ level ≤ 31 ∧ K = 31 := by rw [← hK]; unfold lev; omega
  have hnx := nextL_grow ls id level (by omega) (by omega)
  rw [hK] at hnx
  have p1 : ShowsI w (.slice (some ⟨b, o, none⟩) 1 c) (ls.take 1) := by
    have := showsI_part (o := o) hb hat 0 1 c (by omega) (by omega)
    simpa using this
  have p2 : K + 1 < ls.length → ShowsI w (.slice (some ⟨b, o + (K + 1) * 32, none⟩) (ls.length - (K + 1)) (c - (K + 1))) (ls.drop (K + 1)) := fun h => by
    have := showsI_part (o := o) hb hat (K + 1) (ls.length - (K + 1)) (c - (K + 1)) (by omega) (by omega)
    rwa [List.take_of_length_le (by rw [List.length_drop]; omega)] at this
  have P1 := Lib.hid p1
  have P2 := Lib.hid p2
  have CRp := Lib.hid (fun W v (h : ShowsI W v [id]) => repeat_w id K hKb.1 (by omega) v W h)
  obtain ⟨N, hN⟩ : ∃ N, ls.length = N := ⟨_, rfl⟩
  have HN := Lib.hid hN
  rw [hnx]
  rw [hN] at h2 h3 hcc P2 ⊢
  have hI : ¬ (32 : Int) < (N : Int) := by omega
  have hI2 : ¬ (N : Int) = 0 := by omega
  have hc1 : (1 : Int) ≤ (c : Int) := by omega
  have hc2 : ¬ c = 1 ∨ c = 1 := by omega
  have hKI : (K : Int) ≤ 31 := by omega
  clear hv hN hat hK hnx p1 p2
  have hlv : growL ls id K = ls.take 1 ++ List.replicate (lev level) id ++ ls.drop (K + 1) := by
    have : lev level = K := by unfold lev; omega
    rw [this]
    unfold growL
    rw [List.append_assoc]
  have HLV := Lib.hid hlv
  have hrl : lev level = K := by unfold lev; omega
  have HRL := Lib.hid hrl
  have CRp : Hid (∀ W v, ShowsI W v [id] → Calls Try.prog 26 #[v, .int .i64 (K : Int)] W fun e w' => ∃ p' q' c', e = .returned (.slice p' q' c') ∧ ShowsI w' (.slice p' q' c') (List.replicate (lev level) id) ∧ Grew W w') := Lib.hid (fun W v h => (CRp.out W v h).mono (by
    rintro e w' ⟨v', he, hs, hg⟩
    obtain ⟨p', c', rfl⟩ := showsI_form hs
    exact ⟨p', _, c', he, by rw [hrl]; exact hs, hg⟩))
  clear hlv hrl
  obtain ⟨L, hLL⟩ : ∃ L, lev level = L := ⟨_, rfl⟩
  have hL31 : L ≤ 31 := by rw [← hLL]; exact lev_le level
  rw [hLL] at HLV HRL CRp
  have HL31 := Lib.hid hL31
  clear hLL hL31
  by_cases hlt : K + 1 < N
  · have hltI : (K : Int) + 1 < (N : Int) := by omega
    have P3 := Lib.hid (P2.out hlt)
    have hcne : ¬ c = K + 1 := by omega
    clear P2 hc2
    rcases hKc with ⟨ha, rfl⟩ | ⟨ha, rfl⟩
    rotate_left
    · exfalso; omega
    all_goals
      go_enter Try.func10, Try.ntmps10
      go_wp2
      refine code_abs ?_
      intro Y hY
      have gY : Grew w Y := by rw [hY]; exact (by repeat (first | with_reducible exact Grew.refl _ | with_reducible apply Grew.alloc | with_reducible apply Grew.grow | with_reducible apply Grew.drew | with_reducible apply Grew.drewN))
      have rY : Y.rowAt w.heap.size = iv id.l := by rw [hY]; simp [go_sem]
      have zY : w.heap.size < Y.heap.size := by rw [hY]; simp
      have GY := Lib.hid gY
      clear hY gY
      refine wp_region_flow (by kernel_rfl) ?_
      intro δf
      apply wpFlow_quiets [0,1,2,4,5] (by decide +kernel) (by decide +kernel) (by kernel_rfl) (by intro _ _ _ d _ h; cases d <;> exact h) _
      · intro A hA δ'
        simp only [pickOps_cons, pickOps_nil, pick1_zero, pick1_succ]
        repeat (go_big_quiet_step ((fail)))
        exact wpQuiet_nil hA.out.symm
      refine wpFlow_one 3 (by decide +kernel) (by kernel_rfl) (by kernel_rfl) ?_
      refine wpFlowS_intro ?_
      simp only [pickOps_cons, pickOps_nil, pick1_zero, pick1_succ]
      intro δf
      go_wp2_with (fail)
      refine ⟨(by first | assumption | (simp only [grow_grow, Array.append_assoc]; assumption) | exact Grew.refl _ | (simp only [grow_grow, Array.append_assoc]; exact (by repeat (first | with_reducible exact Grew.refl _ | with_reducible apply Grew.alloc | with_reducible apply Grew.grow | with_reducible apply Grew.drew | with_reducible apply Grew.drewN))) | exact (by repeat (first | with_reducible exact Grew.refl _ | with_reducible apply Grew.alloc | with_reducible apply Grew.grow | with_reducible apply Grew.drew | with_reducible apply Grew.drewN))), ?_⟩
      refine flow_abs ?_
      intro Z hZ
      have gZ : Grew Y Z := by rw [hZ]; exact (by repeat (first | with_reducible exact Grew.refl _ | with_reducible apply Grew.alloc | with_reducible apply Grew.grow | with_reducible apply Grew.drew | with_reducible apply Grew.drewN))
      have SZ : ∀ v, (∃ δ : Junk, Z = (Y.grow δ).alloc (.cells (iv id.l) 24) ∧ v = .slice (some ⟨Y.heap.size + δ.n, 0, none⟩) 1 1) → ShowsI Z v [id] := by
        rintro v ⟨δ, h, rfl⟩
        rw [h]
        exact made1I Y δ id
      have HZ := Lib.hid hZ
      have HSZ := Lib.hid SZ
      have GZ := Lib.hid (GY.out.trans gZ)
      clear gZ hZ SZ rY zY GY
      refine wpFlow_one 6 (by decide +kernel) (by kernel_rfl) (by kernel_rfl) ?_
      refine wpFlowS_intro ?_
      simp only [pickOps_cons, pickOps_nil, pick1_zero, pick1_succ]
      intro δf
      go_wp2_with (go_at_call 26; refine (CRp.out _ _ ((HSZ.out _ ⟨_, HZ.out, rfl⟩).grew (by repeat (first | with_reducible exact Grew.refl _ | with_reducible apply Grew.alloc | with_reducible apply Grew.grow | with_reducible apply Grew.drew | with_reducible apply Grew.drewN)))).mono ?_; rintro e w2 ⟨p5, q5, c5, rfl, hs2, hg2⟩)
      refine ⟨(by first | assumption | (simp only [grow_grow, Array.append_assoc]; assumption) | exact Grew.refl _ | (simp only [grow_grow, Array.append_assoc]; exact (by repeat (first | with_reducible exact Grew.refl _ | with_reducible apply Grew.alloc | with_reducible apply Grew.grow | with_reducible apply Grew.drew | with_reducible apply Grew.drewN))) | exact (by repeat (first | with_reducible exact Grew.refl _ | with_reducible apply Grew.alloc | with_reducible apply Grew.grow | with_reducible apply Grew.drew | with_reducible apply Grew.drewN))), ?_⟩
      have g2 : Grew Z w2 := (show Grew Z _ from (by repeat (first | with_reducible exact Grew.refl _ | with_reducible apply Grew.alloc | with_reducible apply Grew.grow | with_reducible apply Grew.drew | with_reducible apply Grew.drewN))).trans hg2
      have S2 := Lib.hid hs2
      have G2 := Lib.hid (GZ.out.trans g2)
      have Q1 := Lib.hid (P1.out.grew (GZ.out.trans g2))
      clear hs2 hg2 g2 HSZ HZ GZ CRp
      refine wpFlow_one 7 (by decide +kernel) (by kernel_rfl) (by kernel_rfl) ?_
      refine wpFlowS_intro ?_
      simp only [pickOps_cons, pickOps_nil, pick1_zero, pick1_succ]
      intro δf
      go_wp2_with (fail)
      refine ⟨(by first | assumption | (simp only [grow_grow, Array.append_assoc]; assumption) | exact Grew.refl _ | (simp only [grow_grow, Array.append_assoc]; exact (by repeat (first | with_reducible exact Grew.refl _ | with_reducible apply Grew.alloc | with_reducible apply Grew.grow | with_reducible apply Grew.drew | with_reducible apply Grew.drewN))) | exact (by repeat (first | with_reducible exact Grew.refl _ | with_reducible apply Grew.alloc | with_reducible apply Grew.grow | with_reducible apply Grew.drew | with_reducible apply Grew.drewN))), ?_⟩
      refine flow_abs ?_
      intro V hV
      have gV : Grew w2 V := by rw [hV]; exact (by repeat (first | with_reducible exact Grew.refl _ | with_reducible apply Grew.alloc | with_reducible apply Grew.grow | with_reducible apply Grew.drew | with_reducible apply Grew.drewN))
      have HV := Lib.hid hV
      have GV := Lib.hid (G2.out.trans gV)
      have sV : ∀ u, (∃ δ : Junk, V = (w2.grow δ).alloc (.cells #[.slice (some ⟨b, o, none⟩) 1 c, .slice p5 q5 c5] 22) ∧ u = .slice (some ⟨w2.heap.size + δ.n, 0, none⟩) 2 2) → ∀ W, Grew V W → Calls Try.prog 25 #[u] W fun e w' => ∃ v, e = .returned v ∧ OwnE 32 Idb.cs w' W.heap.size 24 v (ls.take 1 ++ List.replicate L id) ∧ Grew W w' := by
        rintro u ⟨δ, h, rfl⟩ W g
        have hr := rowsI_at2 (w2.grow δ) _ _ _ _ (Q1.out.grew ⟨δ, rfl⟩) (S2.out.grew ⟨δ, rfl⟩)
        rw [← h, size_grow] at hr
        have hcc := concatI_w [ls.take 1, List.replicate L id] _ _ W rfl (by simp) (hr.1.grew g) (fun k hk => (hr.2 k hk).grew g) (by rw [flat2]; simp; have := HL31.out; omega) (by simp)
        rwa [flat2] at hcc
      have CV := Lib.hid sV
      clear hV gV sV
      refine wpFlow_one 8 (by decide +kernel) (by kernel_rfl) (by kernel_rfl) ?_
      refine wpFlowS_intro ?_
      simp only [pickOps_cons, pickOps_nil, pick1_zero, pick1_succ]
      intro δf
      go_wp2_with (go_at_call 25; refine (CV.out _ ⟨_, HV.out, rfl⟩ _ (by repeat (first | with_reducible exact Grew.refl _ | with_reducible apply Grew.alloc | with_reducible apply Grew.grow | with_reducible apply Grew.drew | with_reducible apply Grew.drewN))).mono ?_; rintro e w3 ⟨v3, rfl, ho3, hg3⟩)
      refine ⟨(by first | assumption | (simp only [grow_grow, Array.append_assoc]; assumption) | exact Grew.refl _ | (simp only [grow_grow, Array.append_assoc]; exact (by repeat (first | with_reducible exact Grew.refl _ | with_reducible apply Grew.alloc | with_reducible apply Grew.grow | with_reducible apply Grew.drew | with_reducible apply Grew.drewN))) | exact (by repeat (first | with_reducible exact Grew.refl _ | with_reducible apply Grew.alloc | with_reducible apply Grew.grow | with_reducible apply Grew.drew | with_reducible apply Grew.drewN))), ?_⟩
      have g3 : Grew V w3 := (show Grew V _ from (by repeat (first | with_reducible exact Grew.refl _ | with_reducible apply Grew.alloc | with_reducible apply Grew.grow | with_reducible apply Grew.drew | with_reducible apply Grew.drewN))).trans hg3
      have S3 := Lib.hid (ho3.base (show w.heap.size ≤ _ from (GV.out.trans (show Grew V _ from (by repeat (first | with_reducible exact Grew.refl _ | with_reducible apply Grew.alloc | with_reducible apply Grew.grow | with_reducible apply Grew.drew | with_reducible apply Grew.drewN)))).size))
      have G3 := Lib.hid (GV.out.trans g3)
      clear ho3 hg3 g3 CV HV GV S2 Q1 G2
      apply wpFlow_quiets [9] (by decide +kernel) (by decide +kernel) (by kernel_rfl) (by intro _ _ _ d _ h; cases d <;> exact h) _
      · intro A hA δ'
        simp only [pickOps_cons, pickOps_nil, pick1_zero, pick1_succ]
        repeat (go_big_quiet_step ((fail)))
        exact wpQuiet_nil hA.out.symm
      refine wpFlow_end (by decide +kernel) (by kernel_rfl) ?_
      intro δf
      have HO := Lib.hid S3.out
      go_wp2_with (at_builtin; refine stop_of ?_)
      unfold Stop
      refine wpList_appendE2 Idb.cs_len (by decide) rfl _ _ _ rfl _ i _ 32 under_ids hi hz hsz hby id0_cells cs_one w _ w.heap.size _ _ rfl rfl _ (ls.drop (K + 1)) (G3.out.trans (by repeat (first | with_reducible exact Grew.refl _ | with_reducible apply Grew.alloc | with_reducible apply Grew.grow | with_reducible apply Grew.drew | with_reducible apply Grew.drewN))) (Nat.le_refl _) (by have := G3.out.size; simp; omega) (by exact HO.out.grew (by repeat (first | with_reducible exact Grew.refl _ | with_reducible apply Grew.alloc | with_reducible apply Grew.grow | with_reducible apply Grew.drew | with_reducible apply Grew.drewN))) (by exact P3.out.grew (G3.out.trans (by repeat (first | with_reducible exact Grew.refl _ | with_reducible apply Grew.alloc | with_reducible apply Grew.grow | with_reducible apply Grew.drew | with_reducible apply Grew.drewN)))) (by have := HL31.out; have := HN.out; simp [maxLen]; omega) (by have := HL31.out; have := HN.out; simp; omega) ?_
      intro v' w4 ho' hg'
      rw [← HLV.out] at ho'
      have HO4 := Lib.hid (ho'.shows Idb.cs_len)
      have HG4 := Lib.hid hg'
      clear ho' hg' HO S3
      go_wp2
      go_ret
      exact ⟨_, rfl, HO4.out, HG4.out⟩
  · have hltI : ¬ (K : Int) + 1 < (N : Int) := by omega
    have hdr : ls.drop (K + 1) = [] := List.drop_of_length_le (by rw [HN.out]; omega)
    rw [hdr, List.append_nil] at HLV
    clear P2 hc2 hdr
    rcases hKc with ⟨ha, rfl⟩ | ⟨ha, rfl⟩
    all_goals
      go_enter Try.func10, Try.ntmps10
      go_wp2
      refine code_abs ?_
      intro Y hY
      have gY : Grew w Y := by rw [hY]; exact (by repeat (first | with_reducible exact Grew.refl _ | with_reducible apply Grew.alloc | with_reducible apply Grew.grow | with_reducible apply Grew.drew | with_reducible apply Grew.drewN))
      have rY : Y.rowAt w.heap.size = iv id.l := by rw [hY]; simp [go_sem]
      have zY : w.heap.size < Y.heap.size := by rw [hY]; simp
      have GY := Lib.hid gY
      clear hY gY
      refine wp_region_flow (by kernel_rfl) ?_
      intro δf
      apply wpFlow_quiets [0,1,2,4,5] (by decide +kernel) (by decide +kernel) (by kernel_rfl) (by intro _ _ _ d _ h; cases d <;> exact h) _
      · intro A hA δ'
        simp only [pickOps_cons, pickOps_nil, pick1_zero, pick1_succ]
        repeat (go_big_quiet_step ((fail)))
        exact wpQuiet_nil hA.out.symm
      refine wpFlow_one 3 (by decide +kernel) (by kernel_rfl) (by kernel_rfl) ?_
      refine wpFlowS_intro ?_
      simp only [pickOps_cons, pickOps_nil, pick1_zero, pick1_succ]
      intro δf
      go_wp2_with (fail)
      refine ⟨(by first | assumption | (simp only [grow_grow, Array.append_assoc]; assumption) | exact Grew.refl _ | (simp only [grow_grow, Array.append_assoc]; exact (by repeat (first | with_reducible exact Grew.refl _ | with_reducible apply Grew.alloc | with_reducible apply Grew.grow | with_reducible apply Grew.drew | with_reducible apply Grew.drewN))) | exact (by repeat (first | with_reducible exact Grew.refl _ | with_reducible apply Grew.alloc | with_reducible apply Grew.grow | with_reducible apply Grew.drew | with_reducible apply Grew.drewN))), ?_⟩
      refine flow_abs ?_
      intro Z hZ
      have gZ : Grew Y Z := by rw [hZ]; exact (by repeat (first | with_reducible exact Grew.refl _ | with_reducible apply Grew.alloc | with_reducible apply Grew.grow | with_reducible apply Grew.drew | with_reducible apply Grew.drewN))
      have SZ : ∀ v, (∃ δ : Junk, Z = (Y.grow δ).alloc (.cells (iv id.l) 24) ∧ v = .slice (some ⟨Y.heap.size + δ.n, 0, none⟩) 1 1) → ShowsI Z v [id] := by
        rintro v ⟨δ, h, rfl⟩
        rw [h]
        exact made1I Y δ id
      have HZ := Lib.hid hZ
      have HSZ := Lib.hid SZ
      have GZ := Lib.hid (GY.out.trans gZ)
      clear gZ hZ SZ rY zY GY
      refine wpFlow_one 6 (by decide +kernel) (by kernel_rfl) (by kernel_rfl) ?_
      refine wpFlowS_intro ?_
      simp only [pickOps_cons, pickOps_nil, pick1_zero, pick1_succ]
      intro δf
      go_wp2_with (go_at_call 26; refine (CRp.out _ _ ((HSZ.out _ ⟨_, HZ.out, rfl⟩).grew (by repeat (first | with_reducible exact Grew.refl _ | with_reducible apply Grew.alloc | with_reducible apply Grew.grow | with_reducible apply Grew.drew | with_reducible apply Grew.drewN)))).mono ?_; rintro e w2 ⟨p5, q5, c5, rfl, hs2, hg2⟩)
      refine ⟨(by first | assumption | (simp only [grow_grow, Array.append_assoc]; assumption) | exact Grew.refl _ | (simp only [grow_grow, Array.append_assoc]; exact (by repeat (first | with_reducible exact Grew.refl _ | with_reducible apply Grew.alloc | with_reducible apply Grew.grow | with_reducible apply Grew.drew | with_reducible apply Grew.drewN))) | exact (by repeat (first | with_reducible exact Grew.refl _ | with_reducible apply Grew.alloc | with_reducible apply Grew.grow | with_reducible apply Grew.drew | with_reducible apply Grew.drewN))), ?_⟩
      have g2 : Grew Z w2 := (show Grew Z _ from (by repeat (first | with_reducible exact Grew.refl _ | with_reducible apply Grew.alloc | with_reducible apply Grew.grow | with_reducible apply Grew.drew | with_reducible apply Grew.drewN))).trans hg2
      have S2 := Lib.hid hs2
      have G2 := Lib.hid (GZ.out.trans g2)
      have Q1 := Lib.hid (P1.out.grew (GZ.out.trans g2))
      clear hs2 hg2 g2 HSZ HZ GZ CRp
      refine wpFlow_one 7 (by decide +kernel) (by kernel_rfl) (by kernel_rfl) ?_
      refine wpFlowS_intro ?_
      simp only [pickOps_cons, pickOps_nil, pick1_zero, pick1_succ]
      intro δf
      go_wp2_with (fail)
      refine ⟨(by first | assumption | (simp only [grow_grow, Array.append_assoc]; assumption) | exact Grew.refl _ | (simp only [grow_grow, Array.append_assoc]; exact (by repeat (first | with_reducible exact Grew.refl _ | with_reducible apply Grew.alloc | with_reducible apply Grew.grow | with_reducible apply Grew.drew | with_reducible apply Grew.drewN))) | exact (by repeat (first | with_reducible exact Grew.refl _ | with_reducible apply Grew.alloc | with_reducible apply Grew.grow | with_reducible apply Grew.drew | with_reducible apply Grew.drewN))), ?_⟩
      refine flow_abs ?_
      intro V hV
      have gV : Grew w2 V := by rw [hV]; exact (by repeat (first | with_reducible exact Grew.refl _ | with_reducible apply Grew.alloc | with_reducible apply Grew.grow | with_reducible apply Grew.drew | with_reducible apply Grew.drewN))
      have HV := Lib.hid hV
      have GV := Lib.hid (G2.out.trans gV)
      have sV : ∀ u, (∃ δ : Junk, V = (w2.grow δ).alloc (.cells #[.slice (some ⟨b, o, none⟩) 1 c, .slice p5 q5 c5] 22) ∧ u = .slice (some ⟨w2.heap.size + δ.n, 0, none⟩) 2 2) → ∀ W, Grew V W → Calls Try.prog 25 #[u] W fun e w' => ∃ v, e = .returned v ∧ OwnE 32 Idb.cs w' W.heap.size 24 v (ls.take 1 ++ List.replicate L id) ∧ Grew W w' := by
        rintro u ⟨δ, h, rfl⟩ W g
        have hr := rowsI_at2 (w2.grow δ) _ _ _ _ (Q1.out.grew ⟨δ, rfl⟩) (S2.out.grew ⟨δ, rfl⟩)
        rw [← h, size_grow] at hr
        have hcc := concatI_w [ls.take 1, List.replicate L id] _ _ W rfl (by simp) (hr.1.grew g) (fun k hk => (hr.2 k hk).grew g) (by rw [flat2]; simp; have := HL31.out; omega) (by simp)
        rwa [flat2] at hcc
      have CV := Lib.hid sV
      clear hV gV sV
      refine wpFlow_one 8 (by decide +kernel) (by kernel_rfl) (by kernel_rfl) ?_
      refine wpFlowS_intro ?_
      simp only [pickOps_cons, pickOps_nil, pick1_zero, pick1_succ]
      intro δf
      go_wp2_with (go_at_call 25; refine (CV.out _ ⟨_, HV.out, rfl⟩ _ (by repeat (first | with_reducible exact Grew.refl _ | with_reducible apply Grew.alloc | with_reducible apply Grew.grow | with_reducible apply Grew.drew | with_reducible apply Grew.drewN))).mono ?_; rintro e w3 ⟨v3, rfl, ho3, hg3⟩)
      refine ⟨(by first | assumption | (simp only [grow_grow, Array.append_assoc]; assumption) | exact Grew.refl _ | (simp only [grow_grow, Array.append_assoc]; exact (by repeat (first | with_reducible exact Grew.refl _ | with_reducible apply Grew.alloc | with_reducible apply Grew.grow | with_reducible apply Grew.drew | with_reducible apply Grew.drewN))) | exact (by repeat (first | with_reducible exact Grew.refl _ | with_reducible apply Grew.alloc | with_reducible apply Grew.grow | with_reducible apply Grew.drew | with_reducible apply Grew.drewN))), ?_⟩
      have g3 : Grew V w3 := (show Grew V _ from (by repeat (first | with_reducible exact Grew.refl _ | with_reducible apply Grew.alloc | with_reducible apply Grew.grow | with_reducible apply Grew.drew | with_reducible apply Grew.drewN))).trans hg3
      have S3 := Lib.hid (ho3.base (show w.heap.size ≤ _ from (GV.out.trans (show Grew V _ from (by repeat (first | with_reducible exact Grew.refl _ | with_reducible apply Grew.alloc | with_reducible apply Grew.grow | with_reducible apply Grew.drew | with_reducible apply Grew.drewN)))).size))
      have G3 := Lib.hid (GV.out.trans g3)
      clear ho3 hg3 g3 CV HV GV S2 Q1 G2
      apply wpFlow_quiets [9] (by decide +kernel) (by decide +kernel) (by kernel_rfl) (by intro _ _ _ d _ h; cases d <;> exact h) _
      · intro A hA δ'
        simp only [pickOps_cons, pickOps_nil, pick1_zero, pick1_succ]
        repeat (go_big_quiet_step ((fail)))
        exact wpQuiet_nil hA.out.symm
      refine wpFlow_end (by decide +kernel) (by kernel_rfl) ?_
      intro δf
      have HO := Lib.hid (S3.out.shows Idb.cs_len)
      have HO2 := Lib.hid (show ShowsI w3 v3 _ from by have := HO.out; rw [← HLV.out] at this; exact this)
      clear S3 HO
      go_wp2
      go_ret
      exact ⟨_, rfl, HO2.out.grew (by repeat (first | with_reducible exact Grew.refl _ | with_reducible apply Grew.alloc | with_reducible apply Grew.grow | with_reducible apply Grew.drew | with_reducible apply Grew.drewN)), G3.out.trans (by repeat (first | with_reducible exact Grew.refl _ | with_reducible apply Grew.alloc | with_reducible apply Grew.grow | with_reducible apply Grew.drew | with_reducible apply Grew.drewN))⟩
end Go.Proofs.Ytinkdkcmmjfhoaa
/- A store of an id into a row of the call's own. -/
namespace Go.Proofs.Ytinkdkcmmjfhoaa
set_option linter.unusedVariables false
set_option linter.unusedSimpArgs false
open Go.RowKit
theorem flat_take {α : Type} {k : Nat} {f : α → List Value} (hf : ∀ x, (f x).length = k) (l : List α) (n : Nat) : (l.flatMap f).take (n * k) = (l.take n).flatMap f := by
  rcases Nat.lt_or_ge l.length n with h | h
  · rw [List.take_of_length_le (by rw [flat_len hf]; exact Nat.mul_le_mul_right _ (by omega)), List.take_of_length_le (by omega)]
  · have ht := flat_len hf (l.take n)
    rw [List.length_take, Nat.min_eq_left h] at ht
    conv => lhs; rw [← List.take_append_drop n l, List.flatMap_append]
    exact List.take_left' ht
theorem flat_drop {α : Type} {k : Nat} {f : α → List Value} (hf : ∀ x, (f x).length = k) (l : List α) (n : Nat) (h : n ≤ l.length) : (l.flatMap f).drop (n * k) = (l.drop n).flatMap f := by
  have ht := flat_len hf (l.take n)
  rw [List.length_take, Nat.min_eq_left h] at ht
  conv => lhs; rw [← List.take_append_drop n l, List.flatMap_append]
  exact List.drop_left' ht
theorem flat_set {α : Type} {k : Nat} {f : α → List Value} (hf : ∀ x, (f x).length = k) (l : List α) (j : Nat) (x : α) (h : j < l.length) : (l.set j x).flatMap f = (l.flatMap f).take (j * k) ++ f x ++ (l.flatMap f).drop (j * k + k) := by
  have e : j * k + k = (j + 1) * k := by rw [Nat.add_mul, Nat.one_mul]
  rw [e, flat_take hf, flat_drop hf l (j + 1) (by omega), List.set_eq_take_append_cons_drop, if_pos h, List.flatMap_append, List.flatMap_cons, List.append_assoc]
theorem take_put {α : Type} (C y : List α) (o M : Nat) (h1 : o + y.length ≤ M) (h2 : M ≤ C.length) : (C.take o ++ y ++ C.drop (o + y.length)).take M = (C.take M).take o ++ y ++ (C.take M).drop (o + y.length) := by
  have hl : (C.take M).length = M := by rw [List.length_take]; omega
  have e0 : C = C.take M ++ C.drop M := (List.take_append_drop M C).symm
  have e1 : C.take o = (C.take M).take o := by rw [List.take_take, Nat.min_eq_left (by omega)]
  have e2 : C.drop (o + y.length) = (C.take M).drop (o + y.length) ++ C.drop M := by
    conv => lhs; rw [e0]
    rw [List.drop_append_of_le_length (by rw [hl]; exact h1)]
  rw [e1, e2, ← List.append_assoc]
  refine List.take_left' ?_
  simp only [List.length_append, List.length_take, List.length_drop]
  omega
theorem ownE_row {w : World} {base g n cap : Nat} {e : TypeId} {ls : List Idb} (h : OwnE 32 Idb.cs w base e (.slice (some ⟨g, 0, none⟩) n cap) ls) (hn : 0 < n) :
    w.heap[g]? = some (.cells (w.rowAt g) e (0, 0)) ∧ w.rowFree g = true ∧ (w.rowAt g).size = cap * 32 ∧ n ≤ cap ∧ n = ls.length := by
  rcases h.2 with ⟨h', h0⟩ | ⟨g', cap', cur, h', hb, hg, hn', hm, hs, ht⟩
  · simp at h'
  · simp only [Value.slice.injEq, Option.some.injEq, Addr.mk.injEq, and_true, true_and] at h'
    obtain ⟨rfl, rfl, rfl⟩ := h'
    have hr : w.rowAt g = cur := by simp [World.rowAt, hg]
    refine ⟨by rw [hr]; exact hg, by simp [World.rowFree, hg], by rw [hr]; exact hs, hn', rfl⟩
theorem ownE_set {w : World} {base g n cap : Nat} {e : TypeId} {ls : List Idb} (h : OwnE 32 Idb.cs w base e (.slice (some ⟨g, 0, none⟩) n cap) ls) (j : Nat) (hj : j < ls.length) (x : Idb) :
    OwnE 32 Idb.cs (w.setRow g (putAt (w.rowAt g) (j * 32) (iv x.l).toList)) base e (.slice (some ⟨g, 0, none⟩) n cap) (ls.set j x) := by
  rcases h.2 with ⟨h', h0⟩ | ⟨g', cap', cur, h', hb, hg, hn', hm, hs, ht⟩
  · simp at h'
  · simp only [Value.slice.injEq, Option.some.injEq, Addr.mk.injEq, and_true, true_and] at h'
    obtain ⟨rfl, rfl, rfl⟩ := h'
    have hr : w.rowAt g = cur := by simp [World.rowAt, hg]
    have hx : (iv x.l).toList = x.cs := rfl
    have hxl := x.cs_len
    have hcur : cur.toList.length = cap * 32 := by simpa using hs
    have hjc : j * 32 + 32 ≤ cap * 32 := by omega
    have hpl := putAt_list x.cs (j * 32) cur (by rw [hxl]; simpa [hs] using hjc)
    have hfl := flat_len (f := Idb.cs) (k := 32) Idb.cs_len ls
    refine ⟨by rw [flat_len (f := Idb.cs) (k := 32) Idb.cs_len], .inr ⟨g, cap, _, by rw [List.length_set], hb, by rw [hr, hx]; exact setRow_heap w g _ _ _ (0, 0) hg, by rw [List.length_set]; exact hn', hm, ?_, ?_⟩⟩
    · have := congrArg List.length hpl
      simp only [List.length_append, List.length_take, List.length_drop, hxl, hcur] at this
      have h2 : (putAt cur (j * 32) x.cs).size = (putAt cur (j * 32) x.cs).toList.length := rfl
      rw [h2, this]
      omega
    · rw [hpl, List.length_set, take_put cur.toList x.cs (j * 32) (ls.length * 32) (by rw [hxl]; omega) (by rw [hcur]; exact Nat.mul_le_mul_right _ hn'), ht, flat_set Idb.cs_len ls j x hj, hxl]
end Go.Proofs.Ytinkdkcmmjfhoaa
