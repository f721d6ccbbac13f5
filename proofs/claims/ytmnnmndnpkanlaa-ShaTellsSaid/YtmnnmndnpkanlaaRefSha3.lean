/- The document's rounds. -/
import Derived.Test.YtmnnmndnpkanlaaRefSha2
namespace Go.Proofs.Ytmnnmndnpkanlaa
set_option linter.unusedVariables false
set_option linter.unusedSimpArgs false
open Go.RowKit
theorem not_u (x : BitVec 32) : (4294967295 : Int) - u x = u (~~~ x) := by
  unfold u
  rw [BitVec.toNat_not]
  have := x.isLt
  omega
theorem maj_or (a b c : BitVec 32) : (a &&& b ||| a &&& c ||| b &&& c) = (a &&& b ^^^ a &&& c ^^^ b &&& c) := by
  apply BitVec.eq_of_getLsbD_eq
  intro i _
  simp only [BitVec.getLsbD_or, BitVec.getLsbD_and, BitVec.getLsbD_xor]
  cases a.getLsbD i <;> cases b.getLsbD i <;> cases c.getLsbD i <;> rfl
/-- The words, to 'k' of which what was is added. -/
def addk (s v : List (BitVec 32)) (k : Nat) : List (BitVec 32) := (List.range 8).map fun i => if i < k then wordAt s i + wordAt v i else wordAt v i
theorem addk_len (s v : List (BitVec 32)) (k : Nat) : (addk s v k).length = 8 := by simp [addk]
theorem addk_0 (s v : List (BitVec 32)) (h : v.length = 8) : addk s v 0 = v := by
  apply List.ext_getElem
  · simp [addk, h]
  · intro i h1 h2
    simp only [addk, List.getElem_map, List.getElem_range, if_neg (Nat.not_lt_zero i), wordAt_eq v i h2]
theorem addk_at (s v : List (BitVec 32)) (k : Nat) (h : k < 8) : wordAt (addk s v k) k = wordAt v k := by
  rw [wordAt_eq _ _ (by rw [addk_len]; exact h)]
  simp [addk]
theorem addk_set (s v : List (BitVec 32)) (k : Nat) : (addk s v k).set k (wordAt v k + wordAt s k) = addk s v (k + 1) := by
  apply List.ext_getElem
  · simp [addk]
  · intro i h1 h2
    simp only [addk, List.getElem_set, List.getElem_map, List.getElem_range]
    split
    · subst_vars; rw [if_pos (by omega), BitVec.add_comm]
    · split
      · rw [if_pos (by omega)]
      · rw [if_neg (by omega)]
theorem addk_8 (s : List (BitVec 32)) (l : List Nat) : addk s (rnds s (sched l 64) 64) 8 = compress s l := by
  unfold addk compress
  apply List.map_congr_left
  intro i hi
  rw [if_pos (by simpa using hi)]
theorem rnumbers_w (w : World) : Calls Try.prog 28 #[] w fun e w' => ∃ g, e = .returned (.slice (some ⟨g, 0, none⟩) 64 64) ∧ g < w'.heap.size ∧ (∀ j, j < 64 → w'.cell? ⟨g, j, none⟩ = some (.int .u32 (u (wordAt ks j)))) ∧ Grew w w' := by
  go_enter Try.func28, Try.ntmps28
  go_wp2
  go_ret
  refine ⟨w.heap.size, rfl, by simp, fun j hj => ?_, (by repeat (first | with_reducible exact Grew.refl _ | with_reducible apply Grew.alloc | with_reducible apply Grew.grow | with_reducible apply Grew.drew | with_reducible apply Grew.drewN))⟩
  have h := own_alloc w w.heap.size 39 (wsl ks) (Nat.le_refl _) (by rw [wsl_len, ks_len]; decide)
  have h2 := own_cell h j (by rw [wsl_len, ks_len]; exact hj)
  rw [wsl_at] at h2
  exact h2
theorem own_alloc_g (X : World) (a : Junk) (base : Nat) (e : TypeId) (xs : List Value) (hb : base ≤ X.heap.size) (hl : xs.length ≤ maxLen) : OwnR ((X.grow a).alloc (.cells xs.toArray e)) base e (.slice (some ⟨X.heap.size + a.n, 0, none⟩) xs.length xs.length) xs := by
  have := own_alloc (X.grow a) base e xs (by rw [size_grow]; omega) hl
  rwa [size_grow] at this
theorem txr (v : List (BitVec 32)) (k w : BitVec 32) : wordAt v 7 + (rr 6 (wordAt v 4) ^^^ rr 11 (wordAt v 4) ^^^ rr 25 (wordAt v 4)) + (wordAt v 4 &&& wordAt v 5 ^^^ ~~~ wordAt v 4 &&& wordAt v 6) + k + w = tx v k w := rfl
theorem tyr (v : List (BitVec 32)) : (rr 2 (wordAt v 0) ^^^ rr 13 (wordAt v 0) ^^^ rr 22 (wordAt v 0)) + (wordAt v 0 &&& wordAt v 1 ||| wordAt v 0 &&& wordAt v 2 ||| wordAt v 1 &&& wordAt v 2) = ty v := by rw [maj_or]; rfl
set_option maxRecDepth 100000 in
set_option maxHeartbeats 6400000 in
theorem rrounds_w (s W : List (BitVec 32)) (hs : s.length = 8) (hW : W.length = 64) (gs gw cs cw : Nat) (w : World) (h1 : ∀ j, j < 8 → w.cell? ⟨gs, j, none⟩ = some (.int .u32 (u (wordAt s j)))) (h2 : ∀ j, j < 64 → w.cell? ⟨gw, j, none⟩ = some (.int .u32 (u (wordAt W j)))) :
    Calls Try.prog 21 #[.slice (some ⟨gs, 0, none⟩) 8 cs, .slice (some ⟨gw, 0, none⟩) 64 cw] w fun e w' => ∃ v, e = .returned v ∧ OwnR w' w.heap.size 39 v (wsl (addk s (rnds s W 64) 8)) ∧ Grew w w' := by
  obtain ⟨iw, hi, hz, hsz, hby⟩ := info_w
  have l1 : gs < w.heap.size := World.block_lt_of_cell? w _ (h1 0 (by omega))
  have l2 : gw < w.heap.size := World.block_lt_of_cell? w _ (h2 0 (by omega))
  have H1 := Lib.hid h1
  have H2 := Lib.hid h2
  have hsh : Shows w (.slice (some ⟨gs, 0, none⟩) 8 cs) (wsl s) := by
    have : Shows w (.slice (some ⟨gs, 0, none⟩) (wsl s).length cs) (wsl s) := .inl ⟨gs, 0, cs, rfl, l1, fun j x hj => by
      have hj2 : j < s.length := by have := (List.getElem?_eq_some_iff.1 hj).1; rwa [wsl_len] at this
      rw [Nat.zero_add, h1 j (by omega), ← wsl_get s j hj2, hj]⟩
    rwa [wsl_len, hs] at this
  have HSH := Lib.hid hsh
  clear h1 h2 hsh
  go_enter Try.func21, Try.ntmps21
  go_wp2_with (first
    | (go_at_call 28; refine (rnumbers_w _).mono ?_; rintro e wk ⟨gk, rfl, hgk, hkc, hgr⟩)
    | (at_builtin; refine stop_of ?_))
  unfold Stop
  refine wpList_appends rfl _ _ _ rfl _ iw _ 4 under_ws hi hz hsz hby rfl wk _ _ _ rfl rfl [] (wsl s) (Grew.refl _) (by exact OwnR.nil _ _ _) (by exact HSH.out.grew hgr) (wsl_one s) (by rw [wsl_len, hs]; decide) (by rw [wsl_len, hs]; decide) ?_
  intro v0 w1 ho0 hg0
  rw [List.nil_append] at ho0
  have hg1 := hgr.trans hg0
  have HO := Lib.hid (ho0.base (base' := w.heap.size) hgr.size)
  have HG := Lib.hid hg1
  have HGK := Lib.hid (fun j hj => hg0.cell (hkc j hj))
  have HW1 := Lib.hid (fun j hj => hg1.cell (H2.out j hj))
  have HS1 := Lib.hid (fun j hj => hg1.cell (H1.out j hj))
  have z1 : w.heap.size ≤ w1.heap.size := hg1.size
  have z2 : gk < w1.heap.size := Nat.lt_of_lt_of_le hgk hg0.size
  have z3 : gw < w1.heap.size := by omega
  have z4 : gs < w1.heap.size := by omega
  clear ho0 hg0 hg1 hgr hkc hgk H2 HSH l2
  go_wp2
  go_loopw [7, 6] (fun n v wr => ∃ k : Nat, k ≤ 64 ∧ n = .int .i64 k ∧ OwnR wr w.heap.size 39 v (wsl (rnds s W k)) ∧ Grew w1 wr) (fun n _ _ => 64 - (intOf n).toNat)
  case atStart => exact ⟨0, by omega, rfl, HO.out, Grew.refl _⟩
  case round =>
    obtain ⟨k, hk, rfl, ho, hg⟩ := hrel
    have hrl := rnds_len s W hs k
    obtain ⟨g, cap, hv, hgb, hgs, hgc, hgm, hcell⟩ := own_form ho (by rw [wsl_len, hrl]; omega)
    rw [wsl_len, hrl] at hv hgc hcell
    have HO2 := Lib.hid ho
    have HG2 := Lib.hid hg
    have z5 := hg.size
    clear ho hg
    by_cases hn : k < 64
    · have hlt : (k : Int) < 64 := by omega
      subst hv
      have ck := HG2.out.cell (HGK.out k hn)
      have cw := HG2.out.cell (HW1.out k hn)
      have c0 := hcell 0 (by omega)
      have c1 := hcell 1 (by omega)
      have c2 := hcell 2 (by omega)
      have c3 := hcell 3 (by omega)
      have c4 := hcell 4 (by omega)
      have c5 := hcell 5 (by omega)
      have c6 := hcell 6 (by omega)
      have c7 := hcell 7 (by omega)
      rw [wsl_get _ _ (by rw [hrl]; omega)] at c0 c1 c2 c3 c4 c5 c6 c7
      have hfold : wsl (rnds s W (k + 1)) = [.int .u32 (u (tx (rnds s W k) (wordAt ks k) (wordAt W k) + ty (rnds s W k))), .int .u32 (u (wordAt (rnds s W k) 0)), .int .u32 (u (wordAt (rnds s W k) 1)), .int .u32 (u (wordAt (rnds s W k) 2)), .int .u32 (u (wordAt (rnds s W k) 3 + tx (rnds s W k) (wordAt ks k) (wordAt W k))), .int .u32 (u (wordAt (rnds s W k) 4)), .int .u32 (u (wordAt (rnds s W k) 5)), .int .u32 (u (wordAt (rnds s W k) 6))] := rfl
      rw [← tyr, ← txr, ← BitVec.add_assoc] at hfold
      obtain ⟨kk, hkk⟩ : ∃ x, wordAt ks k = x := ⟨_, rfl⟩
      obtain ⟨ww, hww⟩ : ∃ x, wordAt W k = x := ⟨_, rfl⟩
      obtain ⟨v0, hv0⟩ : ∃ x, wordAt (rnds s W k) 0 = x := ⟨_, rfl⟩
      obtain ⟨v1, hv1⟩ : ∃ x, wordAt (rnds s W k) 1 = x := ⟨_, rfl⟩
      obtain ⟨v2, hv2⟩ : ∃ x, wordAt (rnds s W k) 2 = x := ⟨_, rfl⟩
      obtain ⟨v3, hv3⟩ : ∃ x, wordAt (rnds s W k) 3 = x := ⟨_, rfl⟩
      obtain ⟨v4, hv4⟩ : ∃ x, wordAt (rnds s W k) 4 = x := ⟨_, rfl⟩
      obtain ⟨v5, hv5⟩ : ∃ x, wordAt (rnds s W k) 5 = x := ⟨_, rfl⟩
      obtain ⟨v6, hv6⟩ : ∃ x, wordAt (rnds s W k) 6 = x := ⟨_, rfl⟩
      obtain ⟨v7, hv7⟩ : ∃ x, wordAt (rnds s W k) 7 = x := ⟨_, rfl⟩
      simp only [hkk, hww, hv0, hv1, hv2, hv3, hv4, hv5, hv6, hv7] at c0 c1 c2 c3 c4 c5 c6 c7 ck cw hfold
      have HF := Lib.hid hfold
      have hnot := not_u v4
      have y1 : gk < wr.heap.size := by omega
      have y2 : gw < wr.heap.size := by omega
      clear hkk hww hv0 hv1 hv2 hv3 hv4 hv5 hv6 hv7 hfold hcell hk hn hrl
      go_wp2
      first | refine wp_region_pure_lit_g (by kernel_rfl) (by kernel_rfl) ?_ | refine wp_region_pure_lit (by kernel_rfl) (by kernel_rfl) ?_
      repeat (go_big_quiet_step ((go_at_call 29; exact Calls.pure_of (rturn_i _ _ (by decide) _))))
      refine wpQuiet_nil ?_
      intro _ hw'
      obtain ⟨δ1, hw''⟩ := hw'
      subst hw''
      go_wp2
      first | refine wp_region_pure_lit_g (by kernel_rfl) (by kernel_rfl) ?_ | refine wp_region_pure_lit (by kernel_rfl) (by kernel_rfl) ?_
      repeat (go_big_quiet_step ((fail)))
      refine wpQuiet_nil ?_
      intro _ hw'
      obtain ⟨δ1, hw''⟩ := hw'
      subst hw''
      go_wp2
      first | refine wp_region_pure_lit_g (by kernel_rfl) (by kernel_rfl) ?_ | refine wp_region_pure_lit (by kernel_rfl) (by kernel_rfl) ?_
      repeat (go_big_quiet_step ((fail)))
      refine wpQuiet_nil ?_
      intro _ hw'
      obtain ⟨δ1, hw''⟩ := hw'
      subst hw''
      go_wp2
      first | refine wp_region_pure_lit_g (by kernel_rfl) (by kernel_rfl) ?_ | refine wp_region_pure_lit (by kernel_rfl) (by kernel_rfl) ?_
      repeat (go_big_quiet_step ((go_at_call 29; exact Calls.pure_of (rturn_i _ _ (by decide) _))))
      refine wpQuiet_nil ?_
      intro _ hw'
      obtain ⟨δ1, hw''⟩ := hw'
      subst hw''
      go_wp2
      first | refine wp_region_pure_lit_g (by kernel_rfl) (by kernel_rfl) ?_ | refine wp_region_pure_lit (by kernel_rfl) (by kernel_rfl) ?_
      repeat (go_big_quiet_step ((fail)))
      refine wpQuiet_nil ?_
      intro _ hw'
      obtain ⟨δ1, hw''⟩ := hw'
      subst hw''
      go_wp2
      refine wp_region_flow (by kernel_rfl) ?_
      intro δf
      apply wpFlow_quiets [0,1,2,3,4,5,6,7,8,9,10,11,12,13,14,15,16,17,18,19,20,21,22,23,24,25,26,27] (by decide +kernel) (by decide +kernel) (by kernel_rfl) (by intro _ _ _ d _ h; cases d <;> exact h) _
      · intro A hA δ'
        simp only [pickOps_cons, pickOps_nil, pick1_zero, pick1_succ]
        repeat (go_big_quiet_step ((fail)))
        exact wpQuiet_nil hA.out.symm
      refine wpFlow_one 28 (by decide +kernel) (by kernel_rfl) (by kernel_rfl) ?_
      refine wpFlowS_intro ?_
      simp only [pickOps_cons, pickOps_nil, pick1_zero, pick1_succ]
      intro δf
      go_wp2_with (fail)
      refine ⟨(by first | assumption | (simp only [grow_grow, Array.append_assoc]; assumption) | exact Grew.refl _ | (simp only [grow_grow, Array.append_assoc]; exact (by repeat (first | with_reducible exact Grew.refl _ | with_reducible apply Grew.alloc | with_reducible apply Grew.grow | with_reducible apply Grew.drew | with_reducible apply Grew.drewN))) | exact (by repeat (first | with_reducible exact Grew.refl _ | with_reducible apply Grew.alloc | with_reducible apply Grew.grow | with_reducible apply Grew.drew | with_reducible apply Grew.drewN))), ?_⟩
      refine wpFlow_one 29 (by decide +kernel) (by kernel_rfl) (by kernel_rfl) ?_
      refine wpFlowS_intro ?_
      simp only [pickOps_cons, pickOps_nil, pick1_zero, pick1_succ]
      intro δf
      go_wp2_with (fail)
      refine ⟨(by first | assumption | (simp only [grow_grow, Array.append_assoc]; assumption) | exact Grew.refl _ | (simp only [grow_grow, Array.append_assoc]; exact (by repeat (first | with_reducible exact Grew.refl _ | with_reducible apply Grew.alloc | with_reducible apply Grew.grow | with_reducible apply Grew.drew | with_reducible apply Grew.drewN))) | exact (by repeat (first | with_reducible exact Grew.refl _ | with_reducible apply Grew.alloc | with_reducible apply Grew.grow | with_reducible apply Grew.drew | with_reducible apply Grew.drewN))), ?_⟩
      refine wpFlow_end (by decide +kernel) (by kernel_rfl) ?_
      intro δf
      go_wp2
      refine ⟨⟨k + 1, by omega, by go_num, ?_, HG2.out.trans (by repeat (first | with_reducible exact Grew.refl _ | with_reducible apply Grew.alloc | with_reducible apply Grew.grow | with_reducible apply Grew.drew | with_reducible apply Grew.drewN))⟩, by simp only [intOf]; omega⟩
      rw [HF.out]
      exact (own_alloc_g _ _ _ _ [_, _, _, _, _, _, _, _] (by omega) (by simp only [List.length_cons, List.length_nil, maxLen]; omega)).grew ⟨_, rfl⟩
    · obtain rfl : k = 64 := by omega
      obtain ⟨V, hV⟩ : ∃ V, rnds s W 64 = V := ⟨_, rfl⟩
      rw [hV] at HO2 hrl hcell
      have HV := Lib.hid hV
      have HGW := Lib.hid (HG.out.trans HG2.out)
      subst hv
      clear hV hcell hk hn HGK HW1 HO HS1
      go_wp2
      go_loopw [13] (fun n wr2 => ∃ k : Nat, k ≤ 8 ∧ n = .int .i64 k ∧ OwnR wr2 w.heap.size 39 (.slice (some ⟨g, 0, none⟩) 8 cap) (wsl (addk s V k)) ∧ Grew w wr2) (fun n _ => 8 - (intOf n).toNat)
      case atStart => exact ⟨0, by omega, rfl, by rw [addk_0 s V hrl]; exact HO2.out, HGW.out⟩
      case round =>
        obtain ⟨m, hm, rfl, ho3, hg3⟩ := hrel
        have hal := addk_len s V m
        have HO3 := Lib.hid ho3
        have HG3 := Lib.hid hg3
        have z6 := hg3.size
        clear ho3 hg3 z5 HO2 HGW
        by_cases hm8 : m < 8
        · have hlt : (m : Int) < 8 := by omega
          have ca := own_cell HO3.out m (by rw [wsl_len, hal]; exact hm8)
          rw [wsl_at, addk_at s V m hm8] at ca
          have cs' := HG3.out.cell (H1.out m hm8)
          have hfz := own_frozen HO3.out m
          have hgl : g < wr.heap.size := (HO3.out.block g rfl).2
          have y4 : gs < wr.heap.size := by omega
          have hset : (wsl (addk s V m)).set m (.int .u32 (u (wordAt V m + wordAt s m))) = wsl (addk s V (m + 1)) := by
            rw [← addk_set]; unfold wsl; rw [List.map_set]
          obtain ⟨x, hx⟩ : ∃ x, wordAt V m = x := ⟨_, rfl⟩
          obtain ⟨y, hy⟩ : ∃ y, wordAt s m = y := ⟨_, rfl⟩
          rw [hx] at ca
          rw [hy] at cs'
          rw [hx, hy] at hset
          have HSET := Lib.hid hset
          clear hset hx hy hm hm8 hal
          go_wp2
          first | refine wp_region_pure_tail_g 12 (by kernel_rfl) (by kernel_rfl) (by intro _ _ _ d _ h; cases d <;> exact h) ?_ | refine wp_region_pure_tail 12 (by kernel_rfl) (by kernel_rfl) (by intro _ _ _ d _ h; cases d <;> exact h) ?_
          simp only [List.take_succ_cons, List.take_zero, List.drop_succ_cons, List.drop_zero]
          repeat (go_big_quiet_step ((fail)))
          refine wpQuiet_nil ?_
          intro _ hw'
          obtain ⟨δ1, hw''⟩ := hw'
          subst hw''
          go_wp2
          have hst := own_stored (HO3.out.grew (w' := wr.grow δ1) ⟨_, rfl⟩) m (.int .u32 (u (x + y)))
          rw [HSET.out] at hst
          have hst' : OwnR ((wr.setCell ⟨g, m, none⟩ (.int .u32 (u (x + y)))).grow δ1) w.heap.size 39 (.slice (some ⟨g, 0, none⟩) 8 cap) (wsl (addk s V (m + 1))) ∧ (wr.grow δ1).grownBy ((wr.setCell ⟨g, m, none⟩ (.int .u32 (u (x + y)))).grow δ1) (some g) := by
            rw [← setCell_grow_old _ _ _ _ _ _ hgl]; exact hst
          exact ⟨⟨m + 1, by omega, by go_num, hst'.1, (HG3.out.grow δ1).grown hst'.2 fun j hj => (by cases hj; exact hgb)⟩, by simp only [intOf]; omega⟩
        · obtain rfl : m = 8 := by omega
          go_wp2
          go_ret
          exact ⟨_, rfl, by rw [HV.out]; exact HO3.out, HG3.out⟩
end Go.Proofs.Ytmnnmndnpkanlaa
