/- 'stepladderlaw06.MmrPaths' answers true for every slice of ids, slice of numbers of 32 bits, int, without panicking, and what it was handed reads as before. Conditions: none. -/
import Derived.Test.YtnhcamklammcdaaRows
import Derived.Test.YtnhcamklammcdaaM7
/- The walk of MmrPaths (printed in part by gen_law6.py). -/
namespace Go.Proofs.Ytnhcamklammcdaa
set_option linter.unusedVariables false
set_option linter.unusedSimpArgs false
open Go.RowKit
set_option maxRecDepth 100000
set_option maxHeartbeats 12800000 in
theorem mmrPaths_walk (q : Option Addr) (c : Nat) (l : List Idb) (hm : l.length ≤ maxLen) (q1 : Option Addr) (c1 : Nat) (wk : List Nat) (hb1 : ∀ x ∈ wk, x < 4294967296) (hm1 : wk.length ≤ maxLen) (i : Int) (w : World) (hs : ShowsI w (.slice q l.length c) l) (hs1 : Shows w (.slice q1 wk.length c1) (nvs wk)) :
    Calls Try.prog 6 #[.slice q l.length c, .slice q1 wk.length c1, .int .i64 i] w fun e w' => e = .returned (.bool true) ∧ Grew w w' := by
  have HS := Lib.hid hs
  have HS1 := Lib.hid hs1
  have HW1 := Lib.hid hb1
  clear hs hm hs1 hm1 hb1
  obtain ⟨N, hN⟩ : ∃ N, l.length = N := ⟨_, rfl⟩
  obtain ⟨N1, hN1⟩ : ∃ N, wk.length = N := ⟨_, rfl⟩
  have HN := Lib.hid hN
  rw [hN] at HS ⊢
  rw [hN1] at HS1 ⊢
  clear hN hN1
  by_cases h4 : ¬ (¬ 64 < (N : Int) ∧ ¬ i < 0 ∧ ¬ (N : Int) ≤ i)
  · have h5 : 64 < (N : Int) ∨ (¬ 64 < (N : Int) ∧ i < 0) ∨ (¬ 64 < (N : Int) ∧ ¬ i < 0 ∧ (N : Int) ≤ i) := by omega
    clear h4
    rcases h5 with h1 | ⟨h1, h2⟩ | ⟨h1, h2, h3⟩
    all_goals
      go_enter Try.func6, Try.ntmps6
      go_wp2_with (go_at_call 9; refine (awake_w _).mono ?_; rintro e w' ⟨rfl, δ, rfl⟩)
      go_ret
      exact ⟨rfl, (by repeat (first | with_reducible exact Grew.refl _ | with_reducible apply Grew.alloc | with_reducible apply Grew.grow | with_reducible apply Grew.drew | with_reducible apply Grew.drewN))⟩
  obtain ⟨h1, h2, h3⟩ : ¬ 64 < (N : Int) ∧ ¬ i < 0 ∧ ¬ (N : Int) ≤ i := by omega
  clear h4
  obtain ⟨j, rfl⟩ : ∃ j : Nat, i = (j : Int) := ⟨i.toNat, by omega⟩
  have hjN : j < N := by omega
  have hN64 : N ≤ 64 := by omega
  have CL := Lib.hid (fun W (g : Grew w W) => leaves_w l wk (.slice q N c) (.slice q1 N1 c1) W (HS.out.grew g) (HS1.out.grew g) (by rw [HN.out]; omega) HW1.out)
  rw [HN.out] at CL
  have hll := leavesT_len l wk N
  have hon := leaves_ones l wk N
  have hsum := leaves_sum l wk HW1.out N (by omega)
  obtain ⟨ls, hls⟩ : ∃ ls, leavesT l wk N = ls := ⟨_, rfl⟩
  rw [hls] at CL hll hon hsum
  have CPk := Lib.hid (fun W v (h : ShowsT W v ls) => peaks_w ls v W h (by omega))
  have CR := Lib.hid (fun W v (h : ShowsT W v (peaksL ls)) => root_w (peaksL ls) v W (by have := peaksL_len N ls hll; omega) h)
  rw [root_peaks ls (by omega) (by omega) hon] at CR
  have CP := Lib.hid (fun W v (h : ShowsT W v ls) => path_w ls j v W h)
  have hok : tpathOk ls j = true := decide_eq_true ⟨by omega, by omega, by omega⟩
  have hof : tpathOf ls j = pathT ls j := by unfold tpathOf; rw [if_pos hok]; rfl
  rw [hok, hof] at CP
  obtain ⟨x, hx⟩ : ∃ x, ls[j]? = some x := ⟨_, List.getElem?_eq_getElem (by omega)⟩
  have hck := path_chk ls j (by omega) (by omega) hon hsum x hx
  have hmo := chk_more _ _ _ _ (allT ls) _ hck
  have hpl : (pathT ls j).length ≤ 1000 := by
    have := side_len ls.length j (by omega) (by omega)
    rw [pathT_len ls _ (by omega)]
    omega
  obtain ⟨ps, hps⟩ : ∃ ps, pathT ls j = ps := ⟨_, rfl⟩
  obtain ⟨T, hT⟩ : ∃ T, allT ls = T := ⟨_, rfl⟩
  obtain ⟨A, hA⟩ : ∃ A, Wd.of (wsum (ls.take j)) = A := ⟨_, rfl⟩
  rw [hps] at CP hck hmo hpl
  rw [hT] at CR hck hmo
  rw [hA] at hck
  have CK := Lib.hid (fun W v (h : ShowsT W v ps) => check_w T j x ps v W h (by omega))
  rw [hck, show chkV (some A) = .tuple #[.agg (wv A.n), .bool true] from rfl] at CK
  have CM := Lib.hid (fun W v (h : ShowsT W v (ps ++ [T])) => check_w T j x (ps ++ [T]) v W h (by rw [List.length_append, List.length_singleton]; omega))
  rw [hmo, show chkV none = .tuple #[.agg (wv 0), .bool false] from rfl] at CM
  have c7 : ∀ W, Calls Try.prog 27 #[.int .u64 0] W fun e w' => e = .returned (.agg (wv 0)) ∧ Grew W w' := fun W => wof_w 0 (by omega) W
  have C7 := Lib.hid c7
  have hTl := T.h.len
  have hxl := x.h.len
  have hAl := A.lt
  unfold Tot.v at CR
  have HLS := Lib.hid hll
  have HX := Lib.hid hx
  have HA := Lib.hid hA
  have HPL := Lib.hid hpl
  obtain ⟨ii, hif, hz, hsz, hby⟩ := info_t
  clear hll hon hsum hok hof hx hck hmo hpl hps hT hA hls c7 HS HS1
  go_enter Try.func6, Try.ntmps6
  go_wp2_with (first | (go_at_call 9; refine (awake_w _).mono ?_; rintro e w' ⟨rfl, δ, rfl⟩) | (go_at_call 25; refine stop_of ?_))
  unfold Stop
  refine (CL.out _ (by repeat (first | with_reducible exact Grew.refl _ | with_reducible apply Grew.alloc | with_reducible apply Grew.grow | with_reducible apply Grew.drew | with_reducible apply Grew.drewN))).mono ?_
  rintro e X ⟨v8, rfl, ho, hg⟩
  have GX := Lib.hid ((show Grew w _ from (by repeat (first | with_reducible exact Grew.refl _ | with_reducible apply Grew.alloc | with_reducible apply Grew.grow | with_reducible apply Grew.drew | with_reducible apply Grew.drewN))).trans hg)
  have O8 := Lib.hid (OwnE.shows Tot.cs_len ho)
  obtain ⟨p8, k8, rfl⟩ := ownE_len ho
  clear hg ho CL
  rw [HLS.out] at O8 ⊢
  go_wp2_with (go_at_call 26; refine stop_of ?_)
  unfold Stop
  refine (CPk.out _ _ O8.out).mono ?_
  rintro e X1 ⟨v43, rfl, ho, hg⟩
  have O43 := Lib.hid (OwnE.shows Tot.cs_len ho)
  replace O8 := Lib.hid (O8.out.grew hg)
  replace GX := Lib.hid (GX.out.trans hg)
  clear hg ho CPk
  go_wp2_with (go_at_call 18; refine stop_of ?_)
  unfold Stop
  refine (CR.out _ _ O43.out).mono ?_
  rintro e X2 ⟨rfl, hg⟩
  replace O8 := Lib.hid (O8.out.grew hg)
  replace GX := Lib.hid (GX.out.trans hg)
  clear hg CR O43
  go_wp2_with (go_at_call 13; refine stop_of ?_)
  unfold Stop
  refine (CP.out _ _ (O8.out.grew (by repeat (first | with_reducible exact Grew.refl _ | with_reducible apply Grew.alloc | with_reducible apply Grew.grow | with_reducible apply Grew.drew | with_reducible apply Grew.drewN)))).mono ?_
  rintro e X3 ⟨v10, rfl, ho, hg⟩
  have gg : Grew X2 X3 := (show Grew X2 _ from (by repeat (first | with_reducible exact Grew.refl _ | with_reducible apply Grew.alloc | with_reducible apply Grew.grow | with_reducible apply Grew.drew | with_reducible apply Grew.drewN))).trans hg
  have r9 : X3.rowAt X2.heap.size = ta T.h.l T.w.n T.n := by rw [Grew.rowAt hg _ (by simp)]; simp [go_sem]
  have z9 : X2.heap.size < X3.heap.size := by have := hg.size; simp at this; omega
  have S10 := Lib.hid (OwnE.shows Tot.cs_len ho)
  obtain ⟨p10, k10, rfl⟩ := ownE_len ho
  replace O8 := Lib.hid (O8.out.grew gg)
  replace GX := Lib.hid (GX.out.trans gg)
  obtain ⟨b9, hb9⟩ : ∃ b9, X2.heap.size = b9 := ⟨_, rfl⟩
  rw [hb9] at r9 z9 ⊢
  clear hg gg ho CP hb9
  go_wp2
  refine code_abs ?_
  intro Z hZ
  have gZ : Grew X3 Z := by rw [hZ]; exact (by repeat (first | with_reducible exact Grew.refl _ | with_reducible apply Grew.alloc | with_reducible apply Grew.grow | with_reducible apply Grew.drew | with_reducible apply Grew.drewN))
  replace r9 := (Grew.rowAt gZ _ z9).trans r9
  replace z9 := Nat.lt_of_lt_of_le z9 gZ.size
  replace S10 := Lib.hid (S10.out.grew gZ)
  replace GX := Lib.hid (GX.out.trans gZ)
  have o8 := O8.out.grew gZ
  have hvv : ShowsT Z (.slice p8 ls.length k8) ls := by rw [HLS.out]; exact o8
  obtain ⟨b, o, rfl, -, hcc, hb, hat⟩ := showsT_some hvv (by rw [HLS.out]; omega)
  have HATZ := Lib.hid hat
  have HBZ := Lib.hid hb
  have hrx := hat j x HX.out
  have HRX := Lib.hid hrx
  clear hZ gZ o8 hvv hcc hat hrx O8
  have jI : (j : Int) < (N : Int) := by omega
  have jJ : (j : Int) ≤ 64 := by omega
  have HCG := Lib.hid (fun (W W' : World) (h : Grew Z W) (g : Grew W W') => h.trans g)
  have HC0 := Lib.hid (Grew.refl Z)
  refine wp_region_flowC (Grew Z) HCG.out HC0.out (by kernel_rfl) ?_
  intro δf
  apply wpFlowC_quiets [0,1,2,3,4,5,6] HCG.out ⟨_, HC0.out⟩ (by decide +kernel) (by decide +kernel) (by kernel_rfl) (by intro _ _ _ d _ h; cases d <;> exact h) _
  · intro A hA Y hY
    (have d9 := (Grew.rowAt hY _ z9).trans r9; have l9 := Nat.lt_of_lt_of_le z9 hY.size; have lL : b < Y.heap.size := Nat.lt_of_lt_of_le hb hY.size; have ldx : ∀ n, (rowLoad 29 (.pointer (some ⟨b, o + j * 37, none⟩))).run Try.prog (Y.grow n) = .ok (.value (.agg (ta x.h.l x.w.n x.n))) (Y.grow n) := fun n => load_totg (rangeAt_grew HRX.out hY) n)
    simp only [pickOps_cons, pickOps_nil, pick1_zero, pick1_succ]
    repeat (go_big_quiet_step ((fail)))
    exact wpQuiet_nil hA.out.symm
  apply wpFlowC_quiets [7] HCG.out ⟨_, HC0.out⟩ (by decide +kernel) (by decide +kernel) (by kernel_rfl) (by intro _ _ _ d _ h; cases d <;> exact h) _
  · intro A hA Y hY
    (skip)
    simp only [pickOps_cons, pickOps_nil, pick1_zero, pick1_succ]
    repeat (go_big_quiet_step ((go_at_call 15; exact Calls.pure_of (CK.out _ _ ((S10.out.grew hY).grew (by repeat (first | with_reducible exact Grew.refl _ | with_reducible apply Grew.alloc | with_reducible apply Grew.grow | with_reducible apply Grew.drew | with_reducible apply Grew.drewN)))))))
    exact wpQuiet_nil hA.out.symm
  apply wpFlowC_quiets [8,9,10] HCG.out ⟨_, HC0.out⟩ (by decide +kernel) (by decide +kernel) (by kernel_rfl) (by intro _ _ _ d _ h; cases d <;> exact h) _
  · intro A hA Y hY
    simp only [pickOps_cons, pickOps_nil, pick1_zero, pick1_succ]
    repeat (go_big_quiet_step ((fail)))
    exact wpQuiet_nil hA.out.symm
  refine flowC_abs ?_
  intro V hV
  have gV : Grew Z V := by rw [hV]; exact (by repeat (first | with_reducible exact Grew.refl _ | with_reducible apply Grew.alloc | with_reducible apply Grew.grow | with_reducible apply Grew.drew | with_reducible apply Grew.drewN))
  have GV := Lib.hid gV
  have zV := gV.size
  clear hV gV CK
  refine wpFlowC_one 11 (by decide +kernel) (by kernel_rfl) (by kernel_rfl) ?_
  unfold wpFlowCS
  simp only [pickOps_cons, pickOps_nil, pick1_zero, pick1_succ]
  intro δf hCf
  go_wp2_with (fail)
  refine ⟨(by first | assumption | exact HCG.out _ _ hCf (by assumption) | (refine HCG.out _ _ hCf ?_; simp only [grow_grow]; exact (by repeat (first | with_reducible exact Grew.refl _ | with_reducible apply Grew.alloc | with_reducible apply Grew.grow | with_reducible apply Grew.drew | with_reducible apply Grew.drewN))) | exact HCG.out _ _ hCf (by repeat (first | with_reducible exact Grew.refl _ | with_reducible apply Grew.alloc | with_reducible apply Grew.grow | with_reducible apply Grew.drew | with_reducible apply Grew.drewN))), ?_⟩
  refine flowC_abs ?_
  intro V1 hV
  have q1 : V1.rowAt (V.heap.size + δf.n) = wv 0 := by rw [hV]; simp [go_sem]
  have q2 : V1.rowFree (V.heap.size + δf.n) = true := by rw [hV]; simp [go_sem]
  have q3 : V.heap.size + δf.n < V1.heap.size := by rw [hV]; simp
  have gV1 : Grew V V1 := by rw [hV]; exact (by repeat (first | with_reducible exact Grew.refl _ | with_reducible apply Grew.alloc | with_reducible apply Grew.grow | with_reducible apply Grew.drew | with_reducible apply Grew.drewN))
  obtain ⟨b12, hb12⟩ : ∃ b12, V.heap.size + δf.n = b12 := ⟨_, rfl⟩
  have zb : Z.heap.size ≤ b12 := by omega
  have GV1 := Lib.hid (GV.out.trans gV1)
  rw [hb12] at q1 q2 q3 ⊢
  clear hV gV1 hb12 GV
  refine wpFlowC_one 12 (by decide +kernel) (by kernel_rfl) (by kernel_rfl) ?_
  unfold wpFlowCS
  simp only [pickOps_cons, pickOps_nil, pick1_zero, pick1_succ]
  intro δf hCf
  go_wp2
  refine ⟨(Grew.setRow_new GV1.out _ _ zb).grow _, ?_⟩
  refine flowC_abs ?_
  intro V2 hV
  have gV2 : Grew Z V2 := by rw [hV]; exact (Grew.setRow_new GV1.out _ _ zb).grow _
  have r12 : V2.rowAt b12 = wv A.n := by rw [hV]; simp [go_sem, q3, q2]
  have z12 : b12 < V2.heap.size := by rw [hV]; simp [setRow_size]; omega
  have GV2 := Lib.hid gV2
  clear hV gV2 q1 q2 q3 zb hCf GV1
  apply wpFlowC_quiets [13] HCG.out ⟨_, HC0.out⟩ (by decide +kernel) (by decide +kernel) (by kernel_rfl) (by intro _ _ _ d _ h; cases d <;> exact h) _
  · intro A hA Y hY
    simp only [pickOps_cons, pickOps_nil, pick1_zero, pick1_succ]
    repeat (go_big_quiet_step ((fail)))
    exact wpQuiet_nil hA.out.symm
  refine wpFlowC_end (by decide +kernel) (by kernel_rfl) ?_
  intro δf hCf
  refine exit_abs ?_
  intro U hU
  have gU : Grew V2 U := by rw [hU]; exact (by repeat (first | with_reducible exact Grew.refl _ | with_reducible apply Grew.alloc | with_reducible apply Grew.grow | with_reducible apply Grew.drew | with_reducible apply Grew.drewN))
  have gZU : Grew Z U := GV2.out.trans gU
  replace r12 := (Grew.rowAt gU _ z12).trans r12
  replace z12 := Nat.lt_of_lt_of_le z12 gU.size
  replace r9 := (Grew.rowAt gZU _ z9).trans r9
  replace z9 := Nat.lt_of_lt_of_le z9 gZU.size
  replace S10 := Lib.hid (S10.out.grew gZU)
  replace GX := Lib.hid (GX.out.trans gZU)
  have GZU := Lib.hid gZU
  clear hU gU gZU hCf HCG HC0 GV2
  go_wp2_with (go_at_call 27; refine stop_of ?_)
  unfold Stop
  refine (C7.out _).mono ?_
  rintro e B ⟨rfl, hg⟩
  replace r12 := (Grew.rowAt hg _ z12).trans r12
  replace z12 := Nat.lt_of_lt_of_le z12 hg.size
  replace r9 := (Grew.rowAt hg _ z9).trans r9
  replace z9 := Nat.lt_of_lt_of_le z9 hg.size
  replace S10 := Lib.hid (S10.out.grew hg)
  replace GX := Lib.hid (GX.out.trans hg)
  have gZB : Grew Z B := GZU.out.trans hg
  have HAT := Lib.hid (fun k y (hy : ls[k]? = some y) => rangeAt_grew (HATZ.out k y hy) gZB)
  have HBL := Lib.hid (Nat.lt_of_lt_of_le HBZ.out gZB.size)
  clear hg gZB GZU C7 HATZ HBZ hb HRX
  go_wp2
  refine code_abs ?_
  intro W0 hW0
  obtain ⟨b14, hb14⟩ : ∃ b14, B.heap.size = b14 := ⟨_, rfl⟩
  have I1 : W0.rowAt b14 = wv Wd.zero.n := by rw [hW0, ← hb14]; simp [go_sem]; rfl
  have I2 : W0.rowFree b14 = true := by rw [hW0, ← hb14]; simp [go_sem]
  have I3 : b14 < W0.heap.size := by rw [hW0, ← hb14]; simp
  have I4 : Grew B W0 := by rw [hW0]; exact (by repeat (first | with_reducible exact Grew.refl _ | with_reducible apply Grew.alloc | with_reducible apply Grew.grow | with_reducible apply Grew.drew | with_reducible apply Grew.drewN))
  rw [hb14]
  have HBB := Lib.hid (Nat.le_of_eq hb14)
  have zz9 : b9 < B.heap.size := z9
  have zz12 : b12 < B.heap.size := z12
  clear hW0 hb14
  go_loopw [15] (fun n wr => ∃ (k : Nat) (s : Wd), k ≤ j ∧ n = .int .i64 k ∧ s = Wd.of (wsum (ls.take k)) ∧ wr.rowAt b14 = wv s.n ∧ wr.rowFree b14 = true ∧ b14 < wr.heap.size ∧ Grew B wr) (fun n _ => j - (intOf n).toNat)
  case atStart => exact ⟨0, Wd.zero, by omega, rfl, by rw [List.take_zero, wsum_zero], I1, I2, I3, I4⟩
  case round =>
    obtain ⟨k, s, hk, rfl, hs, pb, fb, lb, hg⟩ := hrel
    have HG := Lib.hid hg
    have HS2 := Lib.hid hs
    clear hg hs I1 I2 I3 I4
    by_cases hn : k < j
    · have hlt : (k : Int) < (j : Int) := by omega
      obtain ⟨y, hy⟩ : ∃ y, ls[k]? = some y := ⟨_, List.getElem?_eq_getElem (by rw [HLS.out]; omega)⟩
      have hst := wsum_snoc ls k y hy
      have HST := Lib.hid hst
      have hr := rangeAt_grew (HAT.out k y hy) HG.out
      have HR := Lib.hid hr
      have HK := Lib.hid hn
      have hadd := fun W => wadd_w s y.w W
      have HADD := Lib.hid hadd
      have hsl := s.lt
      have hyl := y.h.len
      have hbw : b < wr.heap.size := Nat.lt_of_lt_of_le HBL.out HG.out.size
      have kI : (k : Int) ≤ 64 := by omega
      have kN : (k : Int) < (N : Int) := by omega
      clear hst hr hadd hn hy hk
      have HCG := Lib.hid (fun (W W' : World) (h : Grew wr W) (g : Grew W W') => h.trans g)
      have HC0 := Lib.hid (Grew.refl wr)
      go_wp2
      refine wp_region_flowC (Grew wr) HCG.out HC0.out (by kernel_rfl) ?_
      intro δf
      apply wpFlowC_quiets [0,1,2,3,4,5,6,7,8,9] HCG.out ⟨_, HC0.out⟩ (by decide +kernel) (by decide +kernel) (by kernel_rfl) (by intro _ _ _ d _ h; cases d <;> exact h) _
      · intro A hA Y hY
        (have d0 := (Grew.rowAt hY _ lb).trans pb; have lY : b14 < Y.heap.size := Nat.lt_of_lt_of_le lb hY.size; have lL : b < Y.heap.size := Nat.lt_of_lt_of_le hbw hY.size; have ldw : ∀ n, (rowLoad 27 (.pointer (some ⟨b, o + k * 37 + 32, none⟩))).run Try.prog (Y.grow n) = .ok (.value (.agg (wv y.w.n))) (Y.grow n) := fun n => load_totWm (rangeAt_grew (rangeAt_grew HR.out hY) ⟨n, rfl⟩))
        simp only [pickOps_cons, pickOps_nil, pick1_zero, pick1_succ]
        repeat (go_big_quiet_step ((go_at_call 24; exact Calls.pure_of (HADD.out _))))
        exact wpQuiet_nil hA.out.symm
      refine flowC_abs ?_
      intro V hV
      have gV : Grew wr V := by rw [hV]; exact (by repeat (first | with_reducible exact Grew.refl _ | with_reducible apply Grew.alloc | with_reducible apply Grew.grow | with_reducible apply Grew.drew | with_reducible apply Grew.drewN))
      have GV := Lib.hid gV
      have zV := gV.size
      clear hV gV
      refine wpFlowC_one 10 (by decide +kernel) (by kernel_rfl) (by kernel_rfl) ?_
      unfold wpFlowCS
      simp only [pickOps_cons, pickOps_nil, pick1_zero, pick1_succ]
      intro δf hCf
      go_wp2_with (fail)
      refine ⟨(by first | assumption | exact HCG.out _ _ hCf (by assumption) | (refine HCG.out _ _ hCf ?_; simp only [grow_grow]; exact (by repeat (first | with_reducible exact Grew.refl _ | with_reducible apply Grew.alloc | with_reducible apply Grew.grow | with_reducible apply Grew.drew | with_reducible apply Grew.drewN))) | exact HCG.out _ _ hCf (by repeat (first | with_reducible exact Grew.refl _ | with_reducible apply Grew.alloc | with_reducible apply Grew.grow | with_reducible apply Grew.drew | with_reducible apply Grew.drewN))), ?_⟩
      refine flowC_abs ?_
      intro V1 hV
      have q1 : V1.rowAt (V.heap.size + δf.n) = wv 0 := by rw [hV]; simp [go_sem]
      have q2 : V1.rowFree (V.heap.size + δf.n) = true := by rw [hV]; simp [go_sem]
      have q3 : V.heap.size + δf.n < V1.heap.size := by rw [hV]; simp
      have gV1 : Grew V V1 := by rw [hV]; exact (by repeat (first | with_reducible exact Grew.refl _ | with_reducible apply Grew.alloc | with_reducible apply Grew.grow | with_reducible apply Grew.drew | with_reducible apply Grew.drewN))
      obtain ⟨b16, hb16⟩ : ∃ b16, V.heap.size + δf.n = b16 := ⟨_, rfl⟩
      have zb : wr.heap.size ≤ b16 := by omega
      have GV1 := Lib.hid (GV.out.trans gV1)
      rw [hb16] at q1 q2 q3 ⊢
      clear hV gV1 hb16 GV
      refine wpFlowC_one 11 (by decide +kernel) (by kernel_rfl) (by kernel_rfl) ?_
      unfold wpFlowCS
      simp only [pickOps_cons, pickOps_nil, pick1_zero, pick1_succ]
      intro δf hCf
      go_wp2
      refine ⟨(Grew.setRow_new GV1.out _ _ zb).grow _, ?_⟩
      refine flowC_abs ?_
      intro V2 hV
      have gV2 : Grew wr V2 := by rw [hV]; exact (Grew.setRow_new GV1.out _ _ zb).grow _
      have r16 : V2.rowAt b16 = wv (s.add y.w).n := by rw [hV]; simp [go_sem, q3, q2]
      have z16 : b16 < V2.heap.size := by rw [hV]; simp [setRow_size]; omega
      have GV2 := Lib.hid gV2
      clear hV gV2 q1 q2 q3 zb hCf GV1
      apply wpFlowC_quiets [12] HCG.out ⟨_, HC0.out⟩ (by decide +kernel) (by decide +kernel) (by kernel_rfl) (by intro _ _ _ d _ h; cases d <;> exact h) _
      · intro A hA Y hY
        simp only [pickOps_cons, pickOps_nil, pick1_zero, pick1_succ]
        repeat (go_big_quiet_step ((fail)))
        exact wpQuiet_nil hA.out.symm
      refine wpFlowC_end (by decide +kernel) (by kernel_rfl) ?_
      intro δf hCf
      refine exit_abs ?_
      intro U hU
      have gU : Grew V2 U := by rw [hU]; exact (by repeat (first | with_reducible exact Grew.refl _ | with_reducible apply Grew.alloc | with_reducible apply Grew.grow | with_reducible apply Grew.drew | with_reducible apply Grew.drewN))
      have gw : Grew wr U := GV2.out.trans gU
      replace r16 := (Grew.rowAt gU _ z16).trans r16
      replace z16 := Nat.lt_of_lt_of_le z16 gU.size
      have pb2 := (Grew.rowAt gw _ lb).trans pb
      have fb2 := (Grew.rowFree gw _ lb).trans fb
      have lb2 := Nat.lt_of_lt_of_le lb gw.size
      have GW := Lib.hid (HG.out.trans gw)
      clear hU gU gw hCf HCG HC0 GV2 pb fb lb HR
      go_wp2
      refine ⟨⟨k + 1, s.add y.w, by have := HK.out; omega, by go_num, by rw [HST.out, ← HS2.out], ?_, ?_, ?_, ?_⟩, by have := HK.out; simp only [intOf]; omega⟩
      · rw [rowAt_setRow_free _ _ _ fb2]
      · rw [rowFree_setRow_free _ _ _ fb2]
      · rw [setRow_size]; exact lb2
      · exact Grew.setRow_new GW.out _ _ HBB.out
    · obtain rfl : k = j := by omega
      have hge : ¬ ((k : Int) < (k : Int)) := by omega
      have gBw : Grew B wr := HG.out
      have e14 : wr.rowAt b14 = wv A.n := by rw [pb, HS2.out, HA.out]
      have e12 := (Grew.rowAt gBw _ zz12).trans r12
      have l12 := Nat.lt_of_lt_of_le zz12 gBw.size
      have e9 := (Grew.rowAt gBw _ zz9).trans r9
      have l9 := Nat.lt_of_lt_of_le zz9 gBw.size
      have l14 := lb
      replace S10 := Lib.hid (S10.out.grew gBw)
      have GZ0 := Lib.hid (GX.out.trans gBw)
      have HRX := Lib.hid (rangeAt_grew (HAT.out k x HX.out) gBw)
      have lL : b < wr.heap.size := Nat.lt_of_lt_of_le HBL.out gBw.size
      have eqA : weq A.n A.n = true := Wd.eq_of rfl
      clear pb fb lb HS2 HG gBw hk hn HAT HBL r12 r9 z12 z9 zz12 zz9 HBB GX
      go_wp2
      refine code_abs ?_
      intro Z hZ
      have gZ : Grew wr Z := by rw [hZ]; exact (by repeat (first | with_reducible exact Grew.refl _ | with_reducible apply Grew.alloc | with_reducible apply Grew.grow | with_reducible apply Grew.drew | with_reducible apply Grew.drewN))
      replace e12 := (Grew.rowAt gZ _ l12).trans e12
      replace e14 := (Grew.rowAt gZ _ l14).trans e14
      replace e9 := (Grew.rowAt gZ _ l9).trans e9
      replace l12 := Nat.lt_of_lt_of_le l12 gZ.size
      replace l14 := Nat.lt_of_lt_of_le l14 gZ.size
      replace l9 := Nat.lt_of_lt_of_le l9 gZ.size
      replace lL := Nat.lt_of_lt_of_le lL gZ.size
      replace S10 := Lib.hid (S10.out.grew gZ)
      replace HRX := Lib.hid (rangeAt_grew HRX.out gZ)
      have GZ := Lib.hid (GZ0.out.trans gZ)
      clear hZ gZ GZ0
      have HCG := Lib.hid (fun (W W' : World) (h : Grew Z W) (g : Grew W W') => h.trans g)
      have HC0 := Lib.hid (Grew.refl Z)
      refine wp_region_flowC (Grew Z) HCG.out HC0.out (by kernel_rfl) ?_
      intro δf
      apply wpFlowC_quiets [0,1,2,3,4,5,6,8] HCG.out ⟨_, HC0.out⟩ (by decide +kernel) (by decide +kernel) (by kernel_rfl) (by intro _ _ _ d _ h; cases d <;> exact h) _
      · intro A hA Y hY
        (have d9 := (Grew.rowAt hY _ l9).trans e9; have y9 := Nat.lt_of_lt_of_le l9 hY.size; have yL := Nat.lt_of_lt_of_le lL hY.size; have ldx : ∀ n, (rowLoad 29 (.pointer (some ⟨b, o + k * 37, none⟩))).run Try.prog (Y.grow n) = .ok (.value (.agg (ta x.h.l x.w.n x.n))) (Y.grow n) := fun n => load_totg (rangeAt_grew HRX.out hY) n)
        simp only [pickOps_cons, pickOps_nil, pick1_zero, pick1_succ]
        repeat (go_big_quiet_step ((fail)))
        exact wpQuiet_nil hA.out.symm
      refine flowC_abs ?_
      intro W0 hV
      have GG_W0 := Lib.hid (show Grew Z W0 by rw [hV]; exact (by repeat (first | with_reducible exact Grew.refl _ | with_reducible apply Grew.alloc | with_reducible apply Grew.grow | with_reducible apply Grew.drew | with_reducible apply Grew.drewN)))
      clear hV
      refine wpFlowC_three 7 9 15 (by decide +kernel) (by kernel_rfl) (by kernel_rfl) ?_ ?_ ?_
      · unfold wpFlowCS
        simp only [pickOps_cons, pickOps_nil, pick1_zero, pick1_succ]
        intro δf hCf
        refine wpList_appendE2 Tot.cs_len (by decide) rfl _ _ _ rfl _ ii _ 72 under_ts hif hz hsz hby tot0_cells Tot.cs_one (W0.grow δf) _ (W0.grow δf).heap.size _ _ rfl rfl [] ps (Grew.refl _) (Nat.le_refl _) (Nat.le_refl _) (OwnE.nil _ _ _) (by exact (S10.out.grew (GG_W0.out)).grew (by repeat (first | with_reducible exact Grew.refl _ | with_reducible apply Grew.alloc | with_reducible apply Grew.grow | with_reducible apply Grew.drew | with_reducible apply Grew.drewN))) (by have := HPL.out; simp [maxLen]; omega) (by have := HPL.out; simp; omega) ?_
        intro v7 Wa ho1 hg1
        rw [List.nil_append] at ho1
        have g1 : Grew W0 Wa := (show Grew W0 _ from (by repeat (first | with_reducible exact Grew.refl _ | with_reducible apply Grew.alloc | with_reducible apply Grew.grow | with_reducible apply Grew.drew | with_reducible apply Grew.drewN))).trans hg1
        have O7_Wa := Lib.hid (ho1.base (show Z.heap.size ≤ _ from ((GG_W0.out).trans (show Grew W0 _ from (by repeat (first | with_reducible exact Grew.refl _ | with_reducible apply Grew.alloc | with_reducible apply Grew.grow | with_reducible apply Grew.drew | with_reducible apply Grew.drewN)))).size))
        have GG_Wa := Lib.hid (GG_W0.out.trans g1)
        refine wpList_nil_then ?_
        refine ⟨GG_Wa.out, ?_⟩
        clear ho1 hg1 g1
        refine wpFlowC_two 9 15 (by decide +kernel) (by kernel_rfl) (by kernel_rfl) ?_ ?_
        · unfold wpFlowCS
          simp only [pickOps_cons, pickOps_nil, pick1_zero, pick1_succ]
          intro δf hCf
          go_wp2_with (fail)
          refine ⟨(by first | assumption | exact HCG.out _ _ hCf (by assumption) | (refine HCG.out _ _ hCf ?_; simp only [grow_grow]; exact (by repeat (first | with_reducible exact Grew.refl _ | with_reducible apply Grew.alloc | with_reducible apply Grew.grow | with_reducible apply Grew.drew | with_reducible apply Grew.drewN))) | exact HCG.out _ _ hCf (by repeat (first | with_reducible exact Grew.refl _ | with_reducible apply Grew.alloc | with_reducible apply Grew.grow | with_reducible apply Grew.drew | with_reducible apply Grew.drewN))), ?_⟩
          refine flowC_abs ?_
          intro Wab hV
          have gW : Grew Wa Wab := by rw [hV]; exact (by repeat (first | with_reducible exact Grew.refl _ | with_reducible apply Grew.alloc | with_reducible apply Grew.grow | with_reducible apply Grew.drew | with_reducible apply Grew.drewN))
          have sh : ShowsT Wab (.slice (some ⟨Wa.heap.size + δf.n, 0, none⟩) 1 1) [T] := by rw [hV]; exact showsE_one_g Tot.cs_len Wa δf T _ _ (Nat.le_refl _)
          have S9_Wab := Lib.hid sh
          obtain ⟨b89, hb89⟩ : ∃ b89, Wa.heap.size + δf.n = b89 := ⟨_, rfl⟩
          rw [hb89] at S9_Wab ⊢
          have O7_Wab := Lib.hid (O7_Wa.out.grew gW)
          have GG_Wab := Lib.hid (GG_Wa.out.trans gW)
          clear hV gW sh hb89
          refine wpFlowC_two 10 15 (by decide +kernel) (by kernel_rfl) (by kernel_rfl) ?_ ?_
          · unfold wpFlowCS
            simp only [pickOps_cons, pickOps_nil, pick1_zero, pick1_succ]
            intro δf hCf
            refine wpList_appendE Tot.cs_len (by decide) rfl _ _ _ rfl _ ii _ 72 under_ts hif hz hsz hby tot0_cells Tot.cs_one Z _ Z.heap.size _ _ rfl rfl ps [T] ((GG_Wab.out).grow _) (Nat.le_refl _) (by have := (GG_Wab.out).size; simp; omega) (by exact O7_Wab.out.grew (by repeat (first | with_reducible exact Grew.refl _ | with_reducible apply Grew.alloc | with_reducible apply Grew.grow | with_reducible apply Grew.drew | with_reducible apply Grew.drewN))) (by exact S9_Wab.out.grew (by repeat (first | with_reducible exact Grew.refl _ | with_reducible apply Grew.alloc | with_reducible apply Grew.grow | with_reducible apply Grew.drew | with_reducible apply Grew.drewN))) (by have := HPL.out; simp [maxLen]; omega) (by have := HPL.out; simp; omega) (by simp) ?_
            intro v10 Wabc ho1 hg1 hgb
            have O10_Wabc := Lib.hid ho1
            have GG_Wabc := Lib.hid hg1
            refine wpList_nil_then ?_
            refine ⟨hg1, ?_⟩
            clear ho1 hg1 hgb
            refine wpFlowC_two 11 15 (by decide +kernel) (by kernel_rfl) (by kernel_rfl) ?_ ?_
            · unfold wpFlowCS
              simp only [pickOps_cons, pickOps_nil, pick1_zero, pick1_succ]
              intro δf hCf
              go_wp2_with (go_at_call 15; refine (CM.out _ _ ((OwnE.shows Tot.cs_len O10_Wabc.out).grew (by repeat (first | with_reducible exact Grew.refl _ | with_reducible apply Grew.alloc | with_reducible apply Grew.grow | with_reducible apply Grew.drew | with_reducible apply Grew.drewN)))).mono ?_; rintro e Wabcd ⟨rfl, hg1⟩)
              have gW : Grew Wabc Wabcd := (show Grew Wabc _ from (by repeat (first | with_reducible exact Grew.refl _ | with_reducible apply Grew.alloc | with_reducible apply Grew.grow | with_reducible apply Grew.drew | with_reducible apply Grew.drewN))).trans hg1
              have O10_Wabcd := Lib.hid (O10_Wabc.out.grew gW)
              have GG_Wabcd := Lib.hid (GG_Wabc.out.trans gW)
              refine ⟨GG_Wabcd.out, ?_⟩
              clear hg1 gW
              apply wpFlowC_quiets [12,13,14] HCG.out ⟨_, HC0.out⟩ (by decide +kernel) (by decide +kernel) (by kernel_rfl) (by intro _ _ _ d _ h; cases d <;> exact h) _
              · intro A hA Y hY
                simp only [pickOps_cons, pickOps_nil, pick1_zero, pick1_succ]
                repeat (go_big_quiet_step ((fail)))
                exact wpQuiet_nil hA.out.symm
              refine wpFlowC_one 15 (by decide +kernel) (by kernel_rfl) (by kernel_rfl) ?_
              unfold wpFlowCS
              simp only [pickOps_cons, pickOps_nil, pick1_zero, pick1_succ]
              intro δf hCf
              go_wp2_with (fail)
              refine ⟨(by first | assumption | exact HCG.out _ _ hCf (by assumption) | (refine HCG.out _ _ hCf ?_; simp only [grow_grow]; exact (by repeat (first | with_reducible exact Grew.refl _ | with_reducible apply Grew.alloc | with_reducible apply Grew.grow | with_reducible apply Grew.drew | with_reducible apply Grew.drewN))) | exact HCG.out _ _ hCf (by repeat (first | with_reducible exact Grew.refl _ | with_reducible apply Grew.alloc | with_reducible apply Grew.grow | with_reducible apply Grew.drew | with_reducible apply Grew.drewN))), ?_⟩
              refine flowC_abs ?_
              intro Wabcde hV
              have gW : Grew Wabcd Wabcde := by rw [hV]; exact (by repeat (first | with_reducible exact Grew.refl _ | with_reducible apply Grew.alloc | with_reducible apply Grew.grow | with_reducible apply Grew.drew | with_reducible apply Grew.drewN))
              obtain ⟨b18, hb18⟩ : ∃ b18, Wabcd.heap.size + δf.n = b18 := ⟨_, rfl⟩
              have R15_Wabcde : Hid (Wabcde.rowAt b18 = wv 0 ∧ Wabcde.rowFree b18 = true ∧ b18 < Wabcde.heap.size) := Lib.hid ⟨by rw [hV, ← hb18]; simp [go_sem], by rw [hV, ← hb18]; simp [go_sem], by rw [hV, ← hb18]; simp⟩
              have Z15 := Lib.hid (show Z.heap.size ≤ b18 by have := (GG_Wabcd.out).size; omega)
              rw [hb18]
              have O10_Wabcde := Lib.hid (O10_Wabcd.out.grew gW)
              have GG_Wabcde := Lib.hid (GG_Wabcd.out.trans gW)
              clear hV gW hb18
              refine flowC_abs ?_
              intro V hV
              have gV : Grew Wabcde V := by rw [hV]; exact (by repeat (first | with_reducible exact Grew.refl _ | with_reducible apply Grew.alloc | with_reducible apply Grew.grow | with_reducible apply Grew.drew | with_reducible apply Grew.drewN))
              have rr := R15_Wabcde.out
              have v1 := (Grew.rowAt gV _ rr.2.2).trans rr.1
              have v2 := (Grew.rowFree gV _ rr.2.2).trans rr.2.1
              have v3 := Nat.lt_of_lt_of_le rr.2.2 gV.size
              have GV := Lib.hid (GG_Wabcde.out.trans gV)
              clear hV gV rr
              refine wpFlowC_one 16 (by decide +kernel) (by kernel_rfl) (by kernel_rfl) ?_
              unfold wpFlowCS
              simp only [pickOps_cons, pickOps_nil, pick1_zero, pick1_succ]
              intro δf hCf
              go_wp2
              refine ⟨(Grew.setRow_new GV.out _ _ Z15.out).grow _, ?_⟩
              refine flowC_abs ?_
              intro V2 hV
              have GV2 := Lib.hid (show Grew Z V2 by rw [hV]; exact (Grew.setRow_new GV.out _ _ Z15.out).grow _)
              clear hV v1 v2 v3 hCf GV
              apply wpFlowC_quiets [17] HCG.out ⟨_, HC0.out⟩ (by decide +kernel) (by decide +kernel) (by kernel_rfl) (by intro _ _ _ d _ h; cases d <;> exact h) _
              · intro A hA Y hY
                simp only [pickOps_cons, pickOps_nil, pick1_zero, pick1_succ]
                repeat (go_big_quiet_step ((fail)))
                exact wpQuiet_nil hA.out.symm
              refine wpFlowC_end (by decide +kernel) (by kernel_rfl) ?_
              intro δf hCf
              refine exit_abs ?_
              intro U hU
              have gU : Grew Z U := by rw [hU]; exact GV2.out.trans (by repeat (first | with_reducible exact Grew.refl _ | with_reducible apply Grew.alloc | with_reducible apply Grew.grow | with_reducible apply Grew.drew | with_reducible apply Grew.drewN))
              have u12 := (Grew.rowAt gU _ l12).trans e12
              have u14 := (Grew.rowAt gU _ l14).trans e14
              have y12 := Nat.lt_of_lt_of_le l12 gU.size
              have y14 := Nat.lt_of_lt_of_le l14 gU.size
              have GF := Lib.hid (GZ.out.trans gU)
              clear hU gU hCf GV2
              go_wp2
              go_ret
              exact ⟨rfl, GF.out.trans (by repeat (first | with_reducible exact Grew.refl _ | with_reducible apply Grew.alloc | with_reducible apply Grew.grow | with_reducible apply Grew.drew | with_reducible apply Grew.drewN))⟩
            · unfold wpFlowCS
              simp only [pickOps_cons, pickOps_nil, pick1_zero, pick1_succ]
              intro δf hCf
              go_wp2_with (fail)
              refine ⟨(by first | assumption | exact HCG.out _ _ hCf (by assumption) | (refine HCG.out _ _ hCf ?_; simp only [grow_grow]; exact (by repeat (first | with_reducible exact Grew.refl _ | with_reducible apply Grew.alloc | with_reducible apply Grew.grow | with_reducible apply Grew.drew | with_reducible apply Grew.drewN))) | exact HCG.out _ _ hCf (by repeat (first | with_reducible exact Grew.refl _ | with_reducible apply Grew.alloc | with_reducible apply Grew.grow | with_reducible apply Grew.drew | with_reducible apply Grew.drewN))), ?_⟩
              refine flowC_abs ?_
              intro Wabce hV
              have gW : Grew Wabc Wabce := by rw [hV]; exact (by repeat (first | with_reducible exact Grew.refl _ | with_reducible apply Grew.alloc | with_reducible apply Grew.grow | with_reducible apply Grew.drew | with_reducible apply Grew.drewN))
              obtain ⟨b18, hb18⟩ : ∃ b18, Wabc.heap.size + δf.n = b18 := ⟨_, rfl⟩
              have R15_Wabce : Hid (Wabce.rowAt b18 = wv 0 ∧ Wabce.rowFree b18 = true ∧ b18 < Wabce.heap.size) := Lib.hid ⟨by rw [hV, ← hb18]; simp [go_sem], by rw [hV, ← hb18]; simp [go_sem], by rw [hV, ← hb18]; simp⟩
              have Z15 := Lib.hid (show Z.heap.size ≤ b18 by have := (GG_Wabc.out).size; omega)
              rw [hb18]
              have O10_Wabce := Lib.hid (O10_Wabc.out.grew gW)
              have GG_Wabce := Lib.hid (GG_Wabc.out.trans gW)
              clear hV gW hb18
              refine wpFlowC_one 11 (by decide +kernel) (by kernel_rfl) (by kernel_rfl) ?_
              unfold wpFlowCS
              simp only [pickOps_cons, pickOps_nil, pick1_zero, pick1_succ]
              intro δf hCf
              go_wp2_with (go_at_call 15; refine (CM.out _ _ ((OwnE.shows Tot.cs_len O10_Wabce.out).grew (by repeat (first | with_reducible exact Grew.refl _ | with_reducible apply Grew.alloc | with_reducible apply Grew.grow | with_reducible apply Grew.drew | with_reducible apply Grew.drewN)))).mono ?_; rintro e Wabced ⟨rfl, hg1⟩)
              have gW : Grew Wabce Wabced := (show Grew Wabce _ from (by repeat (first | with_reducible exact Grew.refl _ | with_reducible apply Grew.alloc | with_reducible apply Grew.grow | with_reducible apply Grew.drew | with_reducible apply Grew.drewN))).trans hg1
              have O10_Wabced := Lib.hid (O10_Wabce.out.grew gW)
              have R15_Wabced : Hid (Wabced.rowAt b18 = wv 0 ∧ Wabced.rowFree b18 = true ∧ b18 < Wabced.heap.size) := Lib.hid ⟨(Grew.rowAt gW _ R15_Wabce.out.2.2).trans R15_Wabce.out.1, (Grew.rowFree gW _ R15_Wabce.out.2.2).trans R15_Wabce.out.2.1, Nat.lt_of_lt_of_le R15_Wabce.out.2.2 (Grew.size gW)⟩
              have GG_Wabced := Lib.hid (GG_Wabce.out.trans gW)
              refine ⟨GG_Wabced.out, ?_⟩
              clear hg1 gW
              apply wpFlowC_quiets [12,13,14] HCG.out ⟨_, HC0.out⟩ (by decide +kernel) (by decide +kernel) (by kernel_rfl) (by intro _ _ _ d _ h; cases d <;> exact h) _
              · intro A hA Y hY
                simp only [pickOps_cons, pickOps_nil, pick1_zero, pick1_succ]
                repeat (go_big_quiet_step ((fail)))
                exact wpQuiet_nil hA.out.symm
              refine flowC_abs ?_
              intro V hV
              have gV : Grew Wabced V := by rw [hV]; exact (by repeat (first | with_reducible exact Grew.refl _ | with_reducible apply Grew.alloc | with_reducible apply Grew.grow | with_reducible apply Grew.drew | with_reducible apply Grew.drewN))
              have rr := R15_Wabced.out
              have v1 := (Grew.rowAt gV _ rr.2.2).trans rr.1
              have v2 := (Grew.rowFree gV _ rr.2.2).trans rr.2.1
              have v3 := Nat.lt_of_lt_of_le rr.2.2 gV.size
              have GV := Lib.hid (GG_Wabced.out.trans gV)
              clear hV gV rr
              refine wpFlowC_one 16 (by decide +kernel) (by kernel_rfl) (by kernel_rfl) ?_
              unfold wpFlowCS
              simp only [pickOps_cons, pickOps_nil, pick1_zero, pick1_succ]
              intro δf hCf
              go_wp2
              refine ⟨(Grew.setRow_new GV.out _ _ Z15.out).grow _, ?_⟩
              refine flowC_abs ?_
              intro V2 hV
              have GV2 := Lib.hid (show Grew Z V2 by rw [hV]; exact (Grew.setRow_new GV.out _ _ Z15.out).grow _)
              clear hV v1 v2 v3 hCf GV
              apply wpFlowC_quiets [17] HCG.out ⟨_, HC0.out⟩ (by decide +kernel) (by decide +kernel) (by kernel_rfl) (by intro _ _ _ d _ h; cases d <;> exact h) _
              · intro A hA Y hY
                simp only [pickOps_cons, pickOps_nil, pick1_zero, pick1_succ]
                repeat (go_big_quiet_step ((fail)))
                exact wpQuiet_nil hA.out.symm
              refine wpFlowC_end (by decide +kernel) (by kernel_rfl) ?_
              intro δf hCf
              refine exit_abs ?_
              intro U hU
              have gU : Grew Z U := by rw [hU]; exact GV2.out.trans (by repeat (first | with_reducible exact Grew.refl _ | with_reducible apply Grew.alloc | with_reducible apply Grew.grow | with_reducible apply Grew.drew | with_reducible apply Grew.drewN))
              have u12 := (Grew.rowAt gU _ l12).trans e12
              have u14 := (Grew.rowAt gU _ l14).trans e14
              have y12 := Nat.lt_of_lt_of_le l12 gU.size
              have y14 := Nat.lt_of_lt_of_le l14 gU.size
              have GF := Lib.hid (GZ.out.trans gU)
              clear hU gU hCf GV2
              go_wp2
              go_ret
              exact ⟨rfl, GF.out.trans (by repeat (first | with_reducible exact Grew.refl _ | with_reducible apply Grew.alloc | with_reducible apply Grew.grow | with_reducible apply Grew.drew | with_reducible apply Grew.drewN))⟩
          · unfold wpFlowCS
            simp only [pickOps_cons, pickOps_nil, pick1_zero, pick1_succ]
            intro δf hCf
            go_wp2_with (fail)
            refine ⟨(by first | assumption | exact HCG.out _ _ hCf (by assumption) | (refine HCG.out _ _ hCf ?_; simp only [grow_grow]; exact (by repeat (first | with_reducible exact Grew.refl _ | with_reducible apply Grew.alloc | with_reducible apply Grew.grow | with_reducible apply Grew.drew | with_reducible apply Grew.drewN))) | exact HCG.out _ _ hCf (by repeat (first | with_reducible exact Grew.refl _ | with_reducible apply Grew.alloc | with_reducible apply Grew.grow | with_reducible apply Grew.drew | with_reducible apply Grew.drewN))), ?_⟩
            refine flowC_abs ?_
            intro Wabe hV
            have gW : Grew Wab Wabe := by rw [hV]; exact (by repeat (first | with_reducible exact Grew.refl _ | with_reducible apply Grew.alloc | with_reducible apply Grew.grow | with_reducible apply Grew.drew | with_reducible apply Grew.drewN))
            obtain ⟨b18, hb18⟩ : ∃ b18, Wab.heap.size + δf.n = b18 := ⟨_, rfl⟩
            have R15_Wabe : Hid (Wabe.rowAt b18 = wv 0 ∧ Wabe.rowFree b18 = true ∧ b18 < Wabe.heap.size) := Lib.hid ⟨by rw [hV, ← hb18]; simp [go_sem], by rw [hV, ← hb18]; simp [go_sem], by rw [hV, ← hb18]; simp⟩
            have Z15 := Lib.hid (show Z.heap.size ≤ b18 by have := (GG_Wab.out).size; omega)
            rw [hb18]
            have O7_Wabe := Lib.hid (O7_Wab.out.grew gW)
            have S9_Wabe := Lib.hid (S9_Wab.out.grew gW)
            have GG_Wabe := Lib.hid (GG_Wab.out.trans gW)
            clear hV gW hb18
            refine wpFlowC_one 10 (by decide +kernel) (by kernel_rfl) (by kernel_rfl) ?_
            unfold wpFlowCS
            simp only [pickOps_cons, pickOps_nil, pick1_zero, pick1_succ]
            intro δf hCf
            refine wpList_appendE Tot.cs_len (by decide) rfl _ _ _ rfl _ ii _ 72 under_ts hif hz hsz hby tot0_cells Tot.cs_one Z _ Z.heap.size _ _ rfl rfl ps [T] ((GG_Wabe.out).grow _) (Nat.le_refl _) (by have := (GG_Wabe.out).size; simp; omega) (by exact O7_Wabe.out.grew (by repeat (first | with_reducible exact Grew.refl _ | with_reducible apply Grew.alloc | with_reducible apply Grew.grow | with_reducible apply Grew.drew | with_reducible apply Grew.drewN))) (by exact S9_Wabe.out.grew (by repeat (first | with_reducible exact Grew.refl _ | with_reducible apply Grew.alloc | with_reducible apply Grew.grow | with_reducible apply Grew.drew | with_reducible apply Grew.drewN))) (by have := HPL.out; simp [maxLen]; omega) (by have := HPL.out; simp; omega) (by simp) ?_
            intro v10 Wabec ho1 hg1 hgb
            have O10_Wabec := Lib.hid ho1
            have n15 := ownT_apart O7_Wabe.out b18 4 (by rw [R15_Wabe.out.1]; rfl) (by decide)
            have e15 : Wabec.heap[b18]? = (Wabe.grow δf).heap[b18]? := hgb.block b18 (Nat.lt_of_lt_of_le R15_Wabe.out.2.2 (show Grew Wabe (Wabe.grow δf) from (by repeat (first | with_reducible exact Grew.refl _ | with_reducible apply Grew.alloc | with_reducible apply Grew.grow | with_reducible apply Grew.drew | with_reducible apply Grew.drewN))).size) (fun e => n15 e.symm)
            have R15_Wabec : Hid (Wabec.rowAt b18 = wv 0 ∧ Wabec.rowFree b18 = true ∧ b18 < Wabec.heap.size) := Lib.hid ⟨by rw [rowAt_of_heap e15, rowAt_grow_old _ _ _ R15_Wabe.out.2.2]; exact R15_Wabe.out.1, by rw [rowFree_of_heap e15, rowFree_grow_old _ _ _ R15_Wabe.out.2.2]; exact R15_Wabe.out.2.1, Nat.lt_of_lt_of_le R15_Wabe.out.2.2 (Nat.le_trans (show Grew Wabe (Wabe.grow δf) from (by repeat (first | with_reducible exact Grew.refl _ | with_reducible apply Grew.alloc | with_reducible apply Grew.grow | with_reducible apply Grew.drew | with_reducible apply Grew.drewN))).size hgb.size)⟩
            clear n15 e15
            have GG_Wabec := Lib.hid hg1
            refine wpList_nil_then ?_
            refine ⟨hg1, ?_⟩
            clear ho1 hg1 hgb
            refine wpFlowC_one 11 (by decide +kernel) (by kernel_rfl) (by kernel_rfl) ?_
            unfold wpFlowCS
            simp only [pickOps_cons, pickOps_nil, pick1_zero, pick1_succ]
            intro δf hCf
            go_wp2_with (go_at_call 15; refine (CM.out _ _ ((OwnE.shows Tot.cs_len O10_Wabec.out).grew (by repeat (first | with_reducible exact Grew.refl _ | with_reducible apply Grew.alloc | with_reducible apply Grew.grow | with_reducible apply Grew.drew | with_reducible apply Grew.drewN)))).mono ?_; rintro e Wabecd ⟨rfl, hg1⟩)
            have gW : Grew Wabec Wabecd := (show Grew Wabec _ from (by repeat (first | with_reducible exact Grew.refl _ | with_reducible apply Grew.alloc | with_reducible apply Grew.grow | with_reducible apply Grew.drew | with_reducible apply Grew.drewN))).trans hg1
            have O10_Wabecd := Lib.hid (O10_Wabec.out.grew gW)
            have R15_Wabecd : Hid (Wabecd.rowAt b18 = wv 0 ∧ Wabecd.rowFree b18 = true ∧ b18 < Wabecd.heap.size) := Lib.hid ⟨(Grew.rowAt gW _ R15_Wabec.out.2.2).trans R15_Wabec.out.1, (Grew.rowFree gW _ R15_Wabec.out.2.2).trans R15_Wabec.out.2.1, Nat.lt_of_lt_of_le R15_Wabec.out.2.2 (Grew.size gW)⟩
            have GG_Wabecd := Lib.hid (GG_Wabec.out.trans gW)
            refine ⟨GG_Wabecd.out, ?_⟩
            clear hg1 gW
            apply wpFlowC_quiets [12,13,14] HCG.out ⟨_, HC0.out⟩ (by decide +kernel) (by decide +kernel) (by kernel_rfl) (by intro _ _ _ d _ h; cases d <;> exact h) _
            · intro A hA Y hY
              simp only [pickOps_cons, pickOps_nil, pick1_zero, pick1_succ]
              repeat (go_big_quiet_step ((fail)))
              exact wpQuiet_nil hA.out.symm
            refine flowC_abs ?_
            intro V hV
            have gV : Grew Wabecd V := by rw [hV]; exact (by repeat (first | with_reducible exact Grew.refl _ | with_reducible apply Grew.alloc | with_reducible apply Grew.grow | with_reducible apply Grew.drew | with_reducible apply Grew.drewN))
            have rr := R15_Wabecd.out
            have v1 := (Grew.rowAt gV _ rr.2.2).trans rr.1
            have v2 := (Grew.rowFree gV _ rr.2.2).trans rr.2.1
            have v3 := Nat.lt_of_lt_of_le rr.2.2 gV.size
            have GV := Lib.hid (GG_Wabecd.out.trans gV)
            clear hV gV rr
            refine wpFlowC_one 16 (by decide +kernel) (by kernel_rfl) (by kernel_rfl) ?_
            unfold wpFlowCS
            simp only [pickOps_cons, pickOps_nil, pick1_zero, pick1_succ]
            intro δf hCf
            go_wp2
            refine ⟨(Grew.setRow_new GV.out _ _ Z15.out).grow _, ?_⟩
            refine flowC_abs ?_
            intro V2 hV
            have GV2 := Lib.hid (show Grew Z V2 by rw [hV]; exact (Grew.setRow_new GV.out _ _ Z15.out).grow _)
            clear hV v1 v2 v3 hCf GV
            apply wpFlowC_quiets [17] HCG.out ⟨_, HC0.out⟩ (by decide +kernel) (by decide +kernel) (by kernel_rfl) (by intro _ _ _ d _ h; cases d <;> exact h) _
            · intro A hA Y hY
              simp only [pickOps_cons, pickOps_nil, pick1_zero, pick1_succ]
              repeat (go_big_quiet_step ((fail)))
              exact wpQuiet_nil hA.out.symm
            refine wpFlowC_end (by decide +kernel) (by kernel_rfl) ?_
            intro δf hCf
            refine exit_abs ?_
            intro U hU
            have gU : Grew Z U := by rw [hU]; exact GV2.out.trans (by repeat (first | with_reducible exact Grew.refl _ | with_reducible apply Grew.alloc | with_reducible apply Grew.grow | with_reducible apply Grew.drew | with_reducible apply Grew.drewN))
            have u12 := (Grew.rowAt gU _ l12).trans e12
            have u14 := (Grew.rowAt gU _ l14).trans e14
            have y12 := Nat.lt_of_lt_of_le l12 gU.size
            have y14 := Nat.lt_of_lt_of_le l14 gU.size
            have GF := Lib.hid (GZ.out.trans gU)
            clear hU gU hCf GV2
            go_wp2
            go_ret
            exact ⟨rfl, GF.out.trans (by repeat (first | with_reducible exact Grew.refl _ | with_reducible apply Grew.alloc | with_reducible apply Grew.grow | with_reducible apply Grew.drew | with_reducible apply Grew.drewN))⟩
        · unfold wpFlowCS
          simp only [pickOps_cons, pickOps_nil, pick1_zero, pick1_succ]
          intro δf hCf
          go_wp2_with (fail)
          refine ⟨(by first | assumption | exact HCG.out _ _ hCf (by assumption) | (refine HCG.out _ _ hCf ?_; simp only [grow_grow]; exact (by repeat (first | with_reducible exact Grew.refl _ | with_reducible apply Grew.alloc | with_reducible apply Grew.grow | with_reducible apply Grew.drew | with_reducible apply Grew.drewN))) | exact HCG.out _ _ hCf (by repeat (first | with_reducible exact Grew.refl _ | with_reducible apply Grew.alloc | with_reducible apply Grew.grow | with_reducible apply Grew.drew | with_reducible apply Grew.drewN))), ?_⟩
          refine flowC_abs ?_
          intro Wae hV
          have gW : Grew Wa Wae := by rw [hV]; exact (by repeat (first | with_reducible exact Grew.refl _ | with_reducible apply Grew.alloc | with_reducible apply Grew.grow | with_reducible apply Grew.drew | with_reducible apply Grew.drewN))
          obtain ⟨b18, hb18⟩ : ∃ b18, Wa.heap.size + δf.n = b18 := ⟨_, rfl⟩
          have R15_Wae : Hid (Wae.rowAt b18 = wv 0 ∧ Wae.rowFree b18 = true ∧ b18 < Wae.heap.size) := Lib.hid ⟨by rw [hV, ← hb18]; simp [go_sem], by rw [hV, ← hb18]; simp [go_sem], by rw [hV, ← hb18]; simp⟩
          have Z15 := Lib.hid (show Z.heap.size ≤ b18 by have := (GG_Wa.out).size; omega)
          rw [hb18]
          have O7_Wae := Lib.hid (O7_Wa.out.grew gW)
          have GG_Wae := Lib.hid (GG_Wa.out.trans gW)
          clear hV gW hb18
          refine wpFlowC_one 9 (by decide +kernel) (by kernel_rfl) (by kernel_rfl) ?_
          unfold wpFlowCS
          simp only [pickOps_cons, pickOps_nil, pick1_zero, pick1_succ]
          intro δf hCf
          go_wp2_with (fail)
          refine ⟨(by first | assumption | exact HCG.out _ _ hCf (by assumption) | (refine HCG.out _ _ hCf ?_; simp only [grow_grow]; exact (by repeat (first | with_reducible exact Grew.refl _ | with_reducible apply Grew.alloc | with_reducible apply Grew.grow | with_reducible apply Grew.drew | with_reducible apply Grew.drewN))) | exact HCG.out _ _ hCf (by repeat (first | with_reducible exact Grew.refl _ | with_reducible apply Grew.alloc | with_reducible apply Grew.grow | with_reducible apply Grew.drew | with_reducible apply Grew.drewN))), ?_⟩
          refine flowC_abs ?_
          intro Waeb hV
          have gW : Grew Wae Waeb := by rw [hV]; exact (by repeat (first | with_reducible exact Grew.refl _ | with_reducible apply Grew.alloc | with_reducible apply Grew.grow | with_reducible apply Grew.drew | with_reducible apply Grew.drewN))
          have sh : ShowsT Waeb (.slice (some ⟨Wae.heap.size + δf.n, 0, none⟩) 1 1) [T] := by rw [hV]; exact showsE_one_g Tot.cs_len Wae δf T _ _ (Nat.le_refl _)
          have S9_Waeb := Lib.hid sh
          obtain ⟨b89, hb89⟩ : ∃ b89, Wae.heap.size + δf.n = b89 := ⟨_, rfl⟩
          rw [hb89] at S9_Waeb ⊢
          have O7_Waeb := Lib.hid (O7_Wae.out.grew gW)
          have R15_Waeb : Hid (Waeb.rowAt b18 = wv 0 ∧ Waeb.rowFree b18 = true ∧ b18 < Waeb.heap.size) := Lib.hid ⟨(Grew.rowAt gW _ R15_Wae.out.2.2).trans R15_Wae.out.1, (Grew.rowFree gW _ R15_Wae.out.2.2).trans R15_Wae.out.2.1, Nat.lt_of_lt_of_le R15_Wae.out.2.2 (Grew.size gW)⟩
          have GG_Waeb := Lib.hid (GG_Wae.out.trans gW)
          clear hV gW sh hb89
          refine wpFlowC_one 10 (by decide +kernel) (by kernel_rfl) (by kernel_rfl) ?_
          unfold wpFlowCS
          simp only [pickOps_cons, pickOps_nil, pick1_zero, pick1_succ]
          intro δf hCf
          refine wpList_appendE Tot.cs_len (by decide) rfl _ _ _ rfl _ ii _ 72 under_ts hif hz hsz hby tot0_cells Tot.cs_one Z _ Z.heap.size _ _ rfl rfl ps [T] ((GG_Waeb.out).grow _) (Nat.le_refl _) (by have := (GG_Waeb.out).size; simp; omega) (by exact O7_Waeb.out.grew (by repeat (first | with_reducible exact Grew.refl _ | with_reducible apply Grew.alloc | with_reducible apply Grew.grow | with_reducible apply Grew.drew | with_reducible apply Grew.drewN))) (by exact S9_Waeb.out.grew (by repeat (first | with_reducible exact Grew.refl _ | with_reducible apply Grew.alloc | with_reducible apply Grew.grow | with_reducible apply Grew.drew | with_reducible apply Grew.drewN))) (by have := HPL.out; simp [maxLen]; omega) (by have := HPL.out; simp; omega) (by simp) ?_
          intro v10 Waebc ho1 hg1 hgb
          have O10_Waebc := Lib.hid ho1
          have n15 := ownT_apart O7_Waeb.out b18 4 (by rw [R15_Waeb.out.1]; rfl) (by decide)
          have e15 : Waebc.heap[b18]? = (Waeb.grow δf).heap[b18]? := hgb.block b18 (Nat.lt_of_lt_of_le R15_Waeb.out.2.2 (show Grew Waeb (Waeb.grow δf) from (by repeat (first | with_reducible exact Grew.refl _ | with_reducible apply Grew.alloc | with_reducible apply Grew.grow | with_reducible apply Grew.drew | with_reducible apply Grew.drewN))).size) (fun e => n15 e.symm)
          have R15_Waebc : Hid (Waebc.rowAt b18 = wv 0 ∧ Waebc.rowFree b18 = true ∧ b18 < Waebc.heap.size) := Lib.hid ⟨by rw [rowAt_of_heap e15, rowAt_grow_old _ _ _ R15_Waeb.out.2.2]; exact R15_Waeb.out.1, by rw [rowFree_of_heap e15, rowFree_grow_old _ _ _ R15_Waeb.out.2.2]; exact R15_Waeb.out.2.1, Nat.lt_of_lt_of_le R15_Waeb.out.2.2 (Nat.le_trans (show Grew Waeb (Waeb.grow δf) from (by repeat (first | with_reducible exact Grew.refl _ | with_reducible apply Grew.alloc | with_reducible apply Grew.grow | with_reducible apply Grew.drew | with_reducible apply Grew.drewN))).size hgb.size)⟩
          clear n15 e15
          have GG_Waebc := Lib.hid hg1
          refine wpList_nil_then ?_
          refine ⟨hg1, ?_⟩
          clear ho1 hg1 hgb
          refine wpFlowC_one 11 (by decide +kernel) (by kernel_rfl) (by kernel_rfl) ?_
          unfold wpFlowCS
          simp only [pickOps_cons, pickOps_nil, pick1_zero, pick1_succ]
          intro δf hCf
          go_wp2_with (go_at_call 15; refine (CM.out _ _ ((OwnE.shows Tot.cs_len O10_Waebc.out).grew (by repeat (first | with_reducible exact Grew.refl _ | with_reducible apply Grew.alloc | with_reducible apply Grew.grow | with_reducible apply Grew.drew | with_reducible apply Grew.drewN)))).mono ?_; rintro e Waebcd ⟨rfl, hg1⟩)
          have gW : Grew Waebc Waebcd := (show Grew Waebc _ from (by repeat (first | with_reducible exact Grew.refl _ | with_reducible apply Grew.alloc | with_reducible apply Grew.grow | with_reducible apply Grew.drew | with_reducible apply Grew.drewN))).trans hg1
          have O10_Waebcd := Lib.hid (O10_Waebc.out.grew gW)
          have R15_Waebcd : Hid (Waebcd.rowAt b18 = wv 0 ∧ Waebcd.rowFree b18 = true ∧ b18 < Waebcd.heap.size) := Lib.hid ⟨(Grew.rowAt gW _ R15_Waebc.out.2.2).trans R15_Waebc.out.1, (Grew.rowFree gW _ R15_Waebc.out.2.2).trans R15_Waebc.out.2.1, Nat.lt_of_lt_of_le R15_Waebc.out.2.2 (Grew.size gW)⟩
          have GG_Waebcd := Lib.hid (GG_Waebc.out.trans gW)
          refine ⟨GG_Waebcd.out, ?_⟩
          clear hg1 gW
          apply wpFlowC_quiets [12,13,14] HCG.out ⟨_, HC0.out⟩ (by decide +kernel) (by decide +kernel) (by kernel_rfl) (by intro _ _ _ d _ h; cases d <;> exact h) _
          · intro A hA Y hY
            simp only [pickOps_cons, pickOps_nil, pick1_zero, pick1_succ]
            repeat (go_big_quiet_step ((fail)))
            exact wpQuiet_nil hA.out.symm
          refine flowC_abs ?_
          intro V hV
          have gV : Grew Waebcd V := by rw [hV]; exact (by repeat (first | with_reducible exact Grew.refl _ | with_reducible apply Grew.alloc | with_reducible apply Grew.grow | with_reducible apply Grew.drew | with_reducible apply Grew.drewN))
          have rr := R15_Waebcd.out
          have v1 := (Grew.rowAt gV _ rr.2.2).trans rr.1
          have v2 := (Grew.rowFree gV _ rr.2.2).trans rr.2.1
          have v3 := Nat.lt_of_lt_of_le rr.2.2 gV.size
          have GV := Lib.hid (GG_Waebcd.out.trans gV)
          clear hV gV rr
          refine wpFlowC_one 16 (by decide +kernel) (by kernel_rfl) (by kernel_rfl) ?_
          unfold wpFlowCS
          simp only [pickOps_cons, pickOps_nil, pick1_zero, pick1_succ]
          intro δf hCf
          go_wp2
          refine ⟨(Grew.setRow_new GV.out _ _ Z15.out).grow _, ?_⟩
          refine flowC_abs ?_
          intro V2 hV
          have GV2 := Lib.hid (show Grew Z V2 by rw [hV]; exact (Grew.setRow_new GV.out _ _ Z15.out).grow _)
          clear hV v1 v2 v3 hCf GV
          apply wpFlowC_quiets [17] HCG.out ⟨_, HC0.out⟩ (by decide +kernel) (by decide +kernel) (by kernel_rfl) (by intro _ _ _ d _ h; cases d <;> exact h) _
          · intro A hA Y hY
            simp only [pickOps_cons, pickOps_nil, pick1_zero, pick1_succ]
            repeat (go_big_quiet_step ((fail)))
            exact wpQuiet_nil hA.out.symm
          refine wpFlowC_end (by decide +kernel) (by kernel_rfl) ?_
          intro δf hCf
          refine exit_abs ?_
          intro U hU
          have gU : Grew Z U := by rw [hU]; exact GV2.out.trans (by repeat (first | with_reducible exact Grew.refl _ | with_reducible apply Grew.alloc | with_reducible apply Grew.grow | with_reducible apply Grew.drew | with_reducible apply Grew.drewN))
          have u12 := (Grew.rowAt gU _ l12).trans e12
          have u14 := (Grew.rowAt gU _ l14).trans e14
          have y12 := Nat.lt_of_lt_of_le l12 gU.size
          have y14 := Nat.lt_of_lt_of_le l14 gU.size
          have GF := Lib.hid (GZ.out.trans gU)
          clear hU gU hCf GV2
          go_wp2
          go_ret
          exact ⟨rfl, GF.out.trans (by repeat (first | with_reducible exact Grew.refl _ | with_reducible apply Grew.alloc | with_reducible apply Grew.grow | with_reducible apply Grew.drew | with_reducible apply Grew.drewN))⟩
      · unfold wpFlowCS
        simp only [pickOps_cons, pickOps_nil, pick1_zero, pick1_succ]
        intro δf hCf
        go_wp2_with (fail)
        refine ⟨(by first | assumption | exact HCG.out _ _ hCf (by assumption) | (refine HCG.out _ _ hCf ?_; simp only [grow_grow]; exact (by repeat (first | with_reducible exact Grew.refl _ | with_reducible apply Grew.alloc | with_reducible apply Grew.grow | with_reducible apply Grew.drew | with_reducible apply Grew.drewN))) | exact HCG.out _ _ hCf (by repeat (first | with_reducible exact Grew.refl _ | with_reducible apply Grew.alloc | with_reducible apply Grew.grow | with_reducible apply Grew.drew | with_reducible apply Grew.drewN))), ?_⟩
        refine flowC_abs ?_
        intro Wb hV
        have gW : Grew W0 Wb := by rw [hV]; exact (by repeat (first | with_reducible exact Grew.refl _ | with_reducible apply Grew.alloc | with_reducible apply Grew.grow | with_reducible apply Grew.drew | with_reducible apply Grew.drewN))
        have sh : ShowsT Wb (.slice (some ⟨W0.heap.size + δf.n, 0, none⟩) 1 1) [T] := by rw [hV]; exact showsE_one_g Tot.cs_len W0 δf T _ _ (Nat.le_refl _)
        have S9_Wb := Lib.hid sh
        obtain ⟨b89, hb89⟩ : ∃ b89, W0.heap.size + δf.n = b89 := ⟨_, rfl⟩
        rw [hb89] at S9_Wb ⊢
        have GG_Wb := Lib.hid (GG_W0.out.trans gW)
        clear hV gW sh hb89
        refine wpFlowC_two 7 15 (by decide +kernel) (by kernel_rfl) (by kernel_rfl) ?_ ?_
        · unfold wpFlowCS
          simp only [pickOps_cons, pickOps_nil, pick1_zero, pick1_succ]
          intro δf hCf
          refine wpList_appendE2 Tot.cs_len (by decide) rfl _ _ _ rfl _ ii _ 72 under_ts hif hz hsz hby tot0_cells Tot.cs_one (Wb.grow δf) _ (Wb.grow δf).heap.size _ _ rfl rfl [] ps (Grew.refl _) (Nat.le_refl _) (Nat.le_refl _) (OwnE.nil _ _ _) (by exact (S10.out.grew (GG_Wb.out)).grew (by repeat (first | with_reducible exact Grew.refl _ | with_reducible apply Grew.alloc | with_reducible apply Grew.grow | with_reducible apply Grew.drew | with_reducible apply Grew.drewN))) (by have := HPL.out; simp [maxLen]; omega) (by have := HPL.out; simp; omega) ?_
          intro v7 Wba ho1 hg1
          rw [List.nil_append] at ho1
          have g1 : Grew Wb Wba := (show Grew Wb _ from (by repeat (first | with_reducible exact Grew.refl _ | with_reducible apply Grew.alloc | with_reducible apply Grew.grow | with_reducible apply Grew.drew | with_reducible apply Grew.drewN))).trans hg1
          have O7_Wba := Lib.hid (ho1.base (show Z.heap.size ≤ _ from ((GG_Wb.out).trans (show Grew Wb _ from (by repeat (first | with_reducible exact Grew.refl _ | with_reducible apply Grew.alloc | with_reducible apply Grew.grow | with_reducible apply Grew.drew | with_reducible apply Grew.drewN)))).size))
          have S9_Wba := Lib.hid (S9_Wb.out.grew g1)
          have GG_Wba := Lib.hid (GG_Wb.out.trans g1)
          refine wpList_nil_then ?_
          refine ⟨GG_Wba.out, ?_⟩
          clear ho1 hg1 g1
          refine wpFlowC_two 10 15 (by decide +kernel) (by kernel_rfl) (by kernel_rfl) ?_ ?_
          · unfold wpFlowCS
            simp only [pickOps_cons, pickOps_nil, pick1_zero, pick1_succ]
            intro δf hCf
            refine wpList_appendE Tot.cs_len (by decide) rfl _ _ _ rfl _ ii _ 72 under_ts hif hz hsz hby tot0_cells Tot.cs_one Z _ Z.heap.size _ _ rfl rfl ps [T] ((GG_Wba.out).grow _) (Nat.le_refl _) (by have := (GG_Wba.out).size; simp; omega) (by exact O7_Wba.out.grew (by repeat (first | with_reducible exact Grew.refl _ | with_reducible apply Grew.alloc | with_reducible apply Grew.grow | with_reducible apply Grew.drew | with_reducible apply Grew.drewN))) (by exact S9_Wba.out.grew (by repeat (first | with_reducible exact Grew.refl _ | with_reducible apply Grew.alloc | with_reducible apply Grew.grow | with_reducible apply Grew.drew | with_reducible apply Grew.drewN))) (by have := HPL.out; simp [maxLen]; omega) (by have := HPL.out; simp; omega) (by simp) ?_
            intro v10 Wbac ho1 hg1 hgb
            have O10_Wbac := Lib.hid ho1
            have GG_Wbac := Lib.hid hg1
            refine wpList_nil_then ?_
            refine ⟨hg1, ?_⟩
            clear ho1 hg1 hgb
            refine wpFlowC_two 11 15 (by decide +kernel) (by kernel_rfl) (by kernel_rfl) ?_ ?_
            · unfold wpFlowCS
              simp only [pickOps_cons, pickOps_nil, pick1_zero, pick1_succ]
              intro δf hCf
              go_wp2_with (go_at_call 15; refine (CM.out _ _ ((OwnE.shows Tot.cs_len O10_Wbac.out).grew (by repeat (first | with_reducible exact Grew.refl _ | with_reducible apply Grew.alloc | with_reducible apply Grew.grow | with_reducible apply Grew.drew | with_reducible apply Grew.drewN)))).mono ?_; rintro e Wbacd ⟨rfl, hg1⟩)
              have gW : Grew Wbac Wbacd := (show Grew Wbac _ from (by repeat (first | with_reducible exact Grew.refl _ | with_reducible apply Grew.alloc | with_reducible apply Grew.grow | with_reducible apply Grew.drew | with_reducible apply Grew.drewN))).trans hg1
              have O10_Wbacd := Lib.hid (O10_Wbac.out.grew gW)
              have GG_Wbacd := Lib.hid (GG_Wbac.out.trans gW)
              refine ⟨GG_Wbacd.out, ?_⟩
              clear hg1 gW
              apply wpFlowC_quiets [12,13,14] HCG.out ⟨_, HC0.out⟩ (by decide +kernel) (by decide +kernel) (by kernel_rfl) (by intro _ _ _ d _ h; cases d <;> exact h) _
              · intro A hA Y hY
                simp only [pickOps_cons, pickOps_nil, pick1_zero, pick1_succ]
                repeat (go_big_quiet_step ((fail)))
                exact wpQuiet_nil hA.out.symm
              refine wpFlowC_one 15 (by decide +kernel) (by kernel_rfl) (by kernel_rfl) ?_
              unfold wpFlowCS
              simp only [pickOps_cons, pickOps_nil, pick1_zero, pick1_succ]
              intro δf hCf
              go_wp2_with (fail)
              refine ⟨(by first | assumption | exact HCG.out _ _ hCf (by assumption) | (refine HCG.out _ _ hCf ?_; simp only [grow_grow]; exact (by repeat (first | with_reducible exact Grew.refl _ | with_reducible apply Grew.alloc | with_reducible apply Grew.grow | with_reducible apply Grew.drew | with_reducible apply Grew.drewN))) | exact HCG.out _ _ hCf (by repeat (first | with_reducible exact Grew.refl _ | with_reducible apply Grew.alloc | with_reducible apply Grew.grow | with_reducible apply Grew.drew | with_reducible apply Grew.drewN))), ?_⟩
              refine flowC_abs ?_
              intro Wbacde hV
              have gW : Grew Wbacd Wbacde := by rw [hV]; exact (by repeat (first | with_reducible exact Grew.refl _ | with_reducible apply Grew.alloc | with_reducible apply Grew.grow | with_reducible apply Grew.drew | with_reducible apply Grew.drewN))
              obtain ⟨b18, hb18⟩ : ∃ b18, Wbacd.heap.size + δf.n = b18 := ⟨_, rfl⟩
              have R15_Wbacde : Hid (Wbacde.rowAt b18 = wv 0 ∧ Wbacde.rowFree b18 = true ∧ b18 < Wbacde.heap.size) := Lib.hid ⟨by rw [hV, ← hb18]; simp [go_sem], by rw [hV, ← hb18]; simp [go_sem], by rw [hV, ← hb18]; simp⟩
              have Z15 := Lib.hid (show Z.heap.size ≤ b18 by have := (GG_Wbacd.out).size; omega)
              rw [hb18]
              have O10_Wbacde := Lib.hid (O10_Wbacd.out.grew gW)
              have GG_Wbacde := Lib.hid (GG_Wbacd.out.trans gW)
              clear hV gW hb18
              refine flowC_abs ?_
              intro V hV
              have gV : Grew Wbacde V := by rw [hV]; exact (by repeat (first | with_reducible exact Grew.refl _ | with_reducible apply Grew.alloc | with_reducible apply Grew.grow | with_reducible apply Grew.drew | with_reducible apply Grew.drewN))
              have rr := R15_Wbacde.out
              have v1 := (Grew.rowAt gV _ rr.2.2).trans rr.1
              have v2 := (Grew.rowFree gV _ rr.2.2).trans rr.2.1
              have v3 := Nat.lt_of_lt_of_le rr.2.2 gV.size
              have GV := Lib.hid (GG_Wbacde.out.trans gV)
              clear hV gV rr
              refine wpFlowC_one 16 (by decide +kernel) (by kernel_rfl) (by kernel_rfl) ?_
              unfold wpFlowCS
              simp only [pickOps_cons, pickOps_nil, pick1_zero, pick1_succ]
              intro δf hCf
              go_wp2
              refine ⟨(Grew.setRow_new GV.out _ _ Z15.out).grow _, ?_⟩
              refine flowC_abs ?_
              intro V2 hV
              have GV2 := Lib.hid (show Grew Z V2 by rw [hV]; exact (Grew.setRow_new GV.out _ _ Z15.out).grow _)
              clear hV v1 v2 v3 hCf GV
              apply wpFlowC_quiets [17] HCG.out ⟨_, HC0.out⟩ (by decide +kernel) (by decide +kernel) (by kernel_rfl) (by intro _ _ _ d _ h; cases d <;> exact h) _
              · intro A hA Y hY
                simp only [pickOps_cons, pickOps_nil, pick1_zero, pick1_succ]
                repeat (go_big_quiet_step ((fail)))
                exact wpQuiet_nil hA.out.symm
              refine wpFlowC_end (by decide +kernel) (by kernel_rfl) ?_
              intro δf hCf
              refine exit_abs ?_
              intro U hU
              have gU : Grew Z U := by rw [hU]; exact GV2.out.trans (by repeat (first | with_reducible exact Grew.refl _ | with_reducible apply Grew.alloc | with_reducible apply Grew.grow | with_reducible apply Grew.drew | with_reducible apply Grew.drewN))
              have u12 := (Grew.rowAt gU _ l12).trans e12
              have u14 := (Grew.rowAt gU _ l14).trans e14
              have y12 := Nat.lt_of_lt_of_le l12 gU.size
              have y14 := Nat.lt_of_lt_of_le l14 gU.size
              have GF := Lib.hid (GZ.out.trans gU)
              clear hU gU hCf GV2
              go_wp2
              go_ret
              exact ⟨rfl, GF.out.trans (by repeat (first | with_reducible exact Grew.refl _ | with_reducible apply Grew.alloc | with_reducible apply Grew.grow | with_reducible apply Grew.drew | with_reducible apply Grew.drewN))⟩
            · unfold wpFlowCS
              simp only [pickOps_cons, pickOps_nil, pick1_zero, pick1_succ]
              intro δf hCf
              go_wp2_with (fail)
              refine ⟨(by first | assumption | exact HCG.out _ _ hCf (by assumption) | (refine HCG.out _ _ hCf ?_; simp only [grow_grow]; exact (by repeat (first | with_reducible exact Grew.refl _ | with_reducible apply Grew.alloc | with_reducible apply Grew.grow | with_reducible apply Grew.drew | with_reducible apply Grew.drewN))) | exact HCG.out _ _ hCf (by repeat (first | with_reducible exact Grew.refl _ | with_reducible apply Grew.alloc | with_reducible apply Grew.grow | with_reducible apply Grew.drew | with_reducible apply Grew.drewN))), ?_⟩
              refine flowC_abs ?_
              intro Wbace hV
              have gW : Grew Wbac Wbace := by rw [hV]; exact (by repeat (first | with_reducible exact Grew.refl _ | with_reducible apply Grew.alloc | with_reducible apply Grew.grow | with_reducible apply Grew.drew | with_reducible apply Grew.drewN))
              obtain ⟨b18, hb18⟩ : ∃ b18, Wbac.heap.size + δf.n = b18 := ⟨_, rfl⟩
              have R15_Wbace : Hid (Wbace.rowAt b18 = wv 0 ∧ Wbace.rowFree b18 = true ∧ b18 < Wbace.heap.size) := Lib.hid ⟨by rw [hV, ← hb18]; simp [go_sem], by rw [hV, ← hb18]; simp [go_sem], by rw [hV, ← hb18]; simp⟩
              have Z15 := Lib.hid (show Z.heap.size ≤ b18 by have := (GG_Wbac.out).size; omega)
              rw [hb18]
              have O10_Wbace := Lib.hid (O10_Wbac.out.grew gW)
              have GG_Wbace := Lib.hid (GG_Wbac.out.trans gW)
              clear hV gW hb18
              refine wpFlowC_one 11 (by decide +kernel) (by kernel_rfl) (by kernel_rfl) ?_
              unfold wpFlowCS
              simp only [pickOps_cons, pickOps_nil, pick1_zero, pick1_succ]
              intro δf hCf
              go_wp2_with (go_at_call 15; refine (CM.out _ _ ((OwnE.shows Tot.cs_len O10_Wbace.out).grew (by repeat (first | with_reducible exact Grew.refl _ | with_reducible apply Grew.alloc | with_reducible apply Grew.grow | with_reducible apply Grew.drew | with_reducible apply Grew.drewN)))).mono ?_; rintro e Wbaced ⟨rfl, hg1⟩)
              have gW : Grew Wbace Wbaced := (show Grew Wbace _ from (by repeat (first | with_reducible exact Grew.refl _ | with_reducible apply Grew.alloc | with_reducible apply Grew.grow | with_reducible apply Grew.drew | with_reducible apply Grew.drewN))).trans hg1
              have O10_Wbaced := Lib.hid (O10_Wbace.out.grew gW)
              have R15_Wbaced : Hid (Wbaced.rowAt b18 = wv 0 ∧ Wbaced.rowFree b18 = true ∧ b18 < Wbaced.heap.size) := Lib.hid ⟨(Grew.rowAt gW _ R15_Wbace.out.2.2).trans R15_Wbace.out.1, (Grew.rowFree gW _ R15_Wbace.out.2.2).trans R15_Wbace.out.2.1, Nat.lt_of_lt_of_le R15_Wbace.out.2.2 (Grew.size gW)⟩
              have GG_Wbaced := Lib.hid (GG_Wbace.out.trans gW)
              refine ⟨GG_Wbaced.out, ?_⟩
              clear hg1 gW
              apply wpFlowC_quiets [12,13,14] HCG.out ⟨_, HC0.out⟩ (by decide +kernel) (by decide +kernel) (by kernel_rfl) (by intro _ _ _ d _ h; cases d <;> exact h) _
              · intro A hA Y hY
                simp only [pickOps_cons, pickOps_nil, pick1_zero, pick1_succ]
                repeat (go_big_quiet_step ((fail)))
                exact wpQuiet_nil hA.out.symm
              refine flowC_abs ?_
              intro V hV
              have gV : Grew Wbaced V := by rw [hV]; exact (by repeat (first | with_reducible exact Grew.refl _ | with_reducible apply Grew.alloc | with_reducible apply Grew.grow | with_reducible apply Grew.drew | with_reducible apply Grew.drewN))
              have rr := R15_Wbaced.out
              have v1 := (Grew.rowAt gV _ rr.2.2).trans rr.1
              have v2 := (Grew.rowFree gV _ rr.2.2).trans rr.2.1
              have v3 := Nat.lt_of_lt_of_le rr.2.2 gV.size
              have GV := Lib.hid (GG_Wbaced.out.trans gV)
              clear hV gV rr
              refine wpFlowC_one 16 (by decide +kernel) (by kernel_rfl) (by kernel_rfl) ?_
              unfold wpFlowCS
              simp only [pickOps_cons, pickOps_nil, pick1_zero, pick1_succ]
              intro δf hCf
              go_wp2
              refine ⟨(Grew.setRow_new GV.out _ _ Z15.out).grow _, ?_⟩
              refine flowC_abs ?_
              intro V2 hV
              have GV2 := Lib.hid (show Grew Z V2 by rw [hV]; exact (Grew.setRow_new GV.out _ _ Z15.out).grow _)
              clear hV v1 v2 v3 hCf GV
              apply wpFlowC_quiets [17] HCG.out ⟨_, HC0.out⟩ (by decide +kernel) (by decide +kernel) (by kernel_rfl) (by intro _ _ _ d _ h; cases d <;> exact h) _
              · intro A hA Y hY
                simp only [pickOps_cons, pickOps_nil, pick1_zero, pick1_succ]
                repeat (go_big_quiet_step ((fail)))
                exact wpQuiet_nil hA.out.symm
              refine wpFlowC_end (by decide +kernel) (by kernel_rfl) ?_
              intro δf hCf
              refine exit_abs ?_
              intro U hU
              have gU : Grew Z U := by rw [hU]; exact GV2.out.trans (by repeat (first | with_reducible exact Grew.refl _ | with_reducible apply Grew.alloc | with_reducible apply Grew.grow | with_reducible apply Grew.drew | with_reducible apply Grew.drewN))
              have u12 := (Grew.rowAt gU _ l12).trans e12
              have u14 := (Grew.rowAt gU _ l14).trans e14
              have y12 := Nat.lt_of_lt_of_le l12 gU.size
              have y14 := Nat.lt_of_lt_of_le l14 gU.size
              have GF := Lib.hid (GZ.out.trans gU)
              clear hU gU hCf GV2
              go_wp2
              go_ret
              exact ⟨rfl, GF.out.trans (by repeat (first | with_reducible exact Grew.refl _ | with_reducible apply Grew.alloc | with_reducible apply Grew.grow | with_reducible apply Grew.drew | with_reducible apply Grew.drewN))⟩
          · unfold wpFlowCS
            simp only [pickOps_cons, pickOps_nil, pick1_zero, pick1_succ]
            intro δf hCf
            go_wp2_with (fail)
            refine ⟨(by first | assumption | exact HCG.out _ _ hCf (by assumption) | (refine HCG.out _ _ hCf ?_; simp only [grow_grow]; exact (by repeat (first | with_reducible exact Grew.refl _ | with_reducible apply Grew.alloc | with_reducible apply Grew.grow | with_reducible apply Grew.drew | with_reducible apply Grew.drewN))) | exact HCG.out _ _ hCf (by repeat (first | with_reducible exact Grew.refl _ | with_reducible apply Grew.alloc | with_reducible apply Grew.grow | with_reducible apply Grew.drew | with_reducible apply Grew.drewN))), ?_⟩
            refine flowC_abs ?_
            intro Wbae hV
            have gW : Grew Wba Wbae := by rw [hV]; exact (by repeat (first | with_reducible exact Grew.refl _ | with_reducible apply Grew.alloc | with_reducible apply Grew.grow | with_reducible apply Grew.drew | with_reducible apply Grew.drewN))
            obtain ⟨b18, hb18⟩ : ∃ b18, Wba.heap.size + δf.n = b18 := ⟨_, rfl⟩
            have R15_Wbae : Hid (Wbae.rowAt b18 = wv 0 ∧ Wbae.rowFree b18 = true ∧ b18 < Wbae.heap.size) := Lib.hid ⟨by rw [hV, ← hb18]; simp [go_sem], by rw [hV, ← hb18]; simp [go_sem], by rw [hV, ← hb18]; simp⟩
            have Z15 := Lib.hid (show Z.heap.size ≤ b18 by have := (GG_Wba.out).size; omega)
            rw [hb18]
            have O7_Wbae := Lib.hid (O7_Wba.out.grew gW)
            have S9_Wbae := Lib.hid (S9_Wba.out.grew gW)
            have GG_Wbae := Lib.hid (GG_Wba.out.trans gW)
            clear hV gW hb18
            refine wpFlowC_one 10 (by decide +kernel) (by kernel_rfl) (by kernel_rfl) ?_
            unfold wpFlowCS
            simp only [pickOps_cons, pickOps_nil, pick1_zero, pick1_succ]
            intro δf hCf
            refine wpList_appendE Tot.cs_len (by decide) rfl _ _ _ rfl _ ii _ 72 under_ts hif hz hsz hby tot0_cells Tot.cs_one Z _ Z.heap.size _ _ rfl rfl ps [T] ((GG_Wbae.out).grow _) (Nat.le_refl _) (by have := (GG_Wbae.out).size; simp; omega) (by exact O7_Wbae.out.grew (by repeat (first | with_reducible exact Grew.refl _ | with_reducible apply Grew.alloc | with_reducible apply Grew.grow | with_reducible apply Grew.drew | with_reducible apply Grew.drewN))) (by exact S9_Wbae.out.grew (by repeat (first | with_reducible exact Grew.refl _ | with_reducible apply Grew.alloc | with_reducible apply Grew.grow | with_reducible apply Grew.drew | with_reducible apply Grew.drewN))) (by have := HPL.out; simp [maxLen]; omega) (by have := HPL.out; simp; omega) (by simp) ?_
            intro v10 Wbaec ho1 hg1 hgb
            have O10_Wbaec := Lib.hid ho1
            have n15 := ownT_apart O7_Wbae.out b18 4 (by rw [R15_Wbae.out.1]; rfl) (by decide)
            have e15 : Wbaec.heap[b18]? = (Wbae.grow δf).heap[b18]? := hgb.block b18 (Nat.lt_of_lt_of_le R15_Wbae.out.2.2 (show Grew Wbae (Wbae.grow δf) from (by repeat (first | with_reducible exact Grew.refl _ | with_reducible apply Grew.alloc | with_reducible apply Grew.grow | with_reducible apply Grew.drew | with_reducible apply Grew.drewN))).size) (fun e => n15 e.symm)
            have R15_Wbaec : Hid (Wbaec.rowAt b18 = wv 0 ∧ Wbaec.rowFree b18 = true ∧ b18 < Wbaec.heap.size) := Lib.hid ⟨by rw [rowAt_of_heap e15, rowAt_grow_old _ _ _ R15_Wbae.out.2.2]; exact R15_Wbae.out.1, by rw [rowFree_of_heap e15, rowFree_grow_old _ _ _ R15_Wbae.out.2.2]; exact R15_Wbae.out.2.1, Nat.lt_of_lt_of_le R15_Wbae.out.2.2 (Nat.le_trans (show Grew Wbae (Wbae.grow δf) from (by repeat (first | with_reducible exact Grew.refl _ | with_reducible apply Grew.alloc | with_reducible apply Grew.grow | with_reducible apply Grew.drew | with_reducible apply Grew.drewN))).size hgb.size)⟩
            clear n15 e15
            have GG_Wbaec := Lib.hid hg1
            refine wpList_nil_then ?_
            refine ⟨hg1, ?_⟩
            clear ho1 hg1 hgb
            refine wpFlowC_one 11 (by decide +kernel) (by kernel_rfl) (by kernel_rfl) ?_
            unfold wpFlowCS
            simp only [pickOps_cons, pickOps_nil, pick1_zero, pick1_succ]
            intro δf hCf
            go_wp2_with (go_at_call 15; refine (CM.out _ _ ((OwnE.shows Tot.cs_len O10_Wbaec.out).grew (by repeat (first | with_reducible exact Grew.refl _ | with_reducible apply Grew.alloc | with_reducible apply Grew.grow | with_reducible apply Grew.drew | with_reducible apply Grew.drewN)))).mono ?_; rintro e Wbaecd ⟨rfl, hg1⟩)
            have gW : Grew Wbaec Wbaecd := (show Grew Wbaec _ from (by repeat (first | with_reducible exact Grew.refl _ | with_reducible apply Grew.alloc | with_reducible apply Grew.grow | with_reducible apply Grew.drew | with_reducible apply Grew.drewN))).trans hg1
            have O10_Wbaecd := Lib.hid (O10_Wbaec.out.grew gW)
            have R15_Wbaecd : Hid (Wbaecd.rowAt b18 = wv 0 ∧ Wbaecd.rowFree b18 = true ∧ b18 < Wbaecd.heap.size) := Lib.hid ⟨(Grew.rowAt gW _ R15_Wbaec.out.2.2).trans R15_Wbaec.out.1, (Grew.rowFree gW _ R15_Wbaec.out.2.2).trans R15_Wbaec.out.2.1, Nat.lt_of_lt_of_le R15_Wbaec.out.2.2 (Grew.size gW)⟩
            have GG_Wbaecd := Lib.hid (GG_Wbaec.out.trans gW)
            refine ⟨GG_Wbaecd.out, ?_⟩
            clear hg1 gW
            apply wpFlowC_quiets [12,13,14] HCG.out ⟨_, HC0.out⟩ (by decide +kernel) (by decide +kernel) (by kernel_rfl) (by intro _ _ _ d _ h; cases d <;> exact h) _
            · intro A hA Y hY
              simp only [pickOps_cons, pickOps_nil, pick1_zero, pick1_succ]
              repeat (go_big_quiet_step ((fail)))
              exact wpQuiet_nil hA.out.symm
            refine flowC_abs ?_
            intro V hV
            have gV : Grew Wbaecd V := by rw [hV]; exact (by repeat (first | with_reducible exact Grew.refl _ | with_reducible apply Grew.alloc | with_reducible apply Grew.grow | with_reducible apply Grew.drew | with_reducible apply Grew.drewN))
            have rr := R15_Wbaecd.out
            have v1 := (Grew.rowAt gV _ rr.2.2).trans rr.1
            have v2 := (Grew.rowFree gV _ rr.2.2).trans rr.2.1
            have v3 := Nat.lt_of_lt_of_le rr.2.2 gV.size
            have GV := Lib.hid (GG_Wbaecd.out.trans gV)
            clear hV gV rr
            refine wpFlowC_one 16 (by decide +kernel) (by kernel_rfl) (by kernel_rfl) ?_
            unfold wpFlowCS
            simp only [pickOps_cons, pickOps_nil, pick1_zero, pick1_succ]
            intro δf hCf
            go_wp2
            refine ⟨(Grew.setRow_new GV.out _ _ Z15.out).grow _, ?_⟩
            refine flowC_abs ?_
            intro V2 hV
            have GV2 := Lib.hid (show Grew Z V2 by rw [hV]; exact (Grew.setRow_new GV.out _ _ Z15.out).grow _)
            clear hV v1 v2 v3 hCf GV
            apply wpFlowC_quiets [17] HCG.out ⟨_, HC0.out⟩ (by decide +kernel) (by decide +kernel) (by kernel_rfl) (by intro _ _ _ d _ h; cases d <;> exact h) _
            · intro A hA Y hY
              simp only [pickOps_cons, pickOps_nil, pick1_zero, pick1_succ]
              repeat (go_big_quiet_step ((fail)))
              exact wpQuiet_nil hA.out.symm
            refine wpFlowC_end (by decide +kernel) (by kernel_rfl) ?_
            intro δf hCf
            refine exit_abs ?_
            intro U hU
            have gU : Grew Z U := by rw [hU]; exact GV2.out.trans (by repeat (first | with_reducible exact Grew.refl _ | with_reducible apply Grew.alloc | with_reducible apply Grew.grow | with_reducible apply Grew.drew | with_reducible apply Grew.drewN))
            have u12 := (Grew.rowAt gU _ l12).trans e12
            have u14 := (Grew.rowAt gU _ l14).trans e14
            have y12 := Nat.lt_of_lt_of_le l12 gU.size
            have y14 := Nat.lt_of_lt_of_le l14 gU.size
            have GF := Lib.hid (GZ.out.trans gU)
            clear hU gU hCf GV2
            go_wp2
            go_ret
            exact ⟨rfl, GF.out.trans (by repeat (first | with_reducible exact Grew.refl _ | with_reducible apply Grew.alloc | with_reducible apply Grew.grow | with_reducible apply Grew.drew | with_reducible apply Grew.drewN))⟩
        · unfold wpFlowCS
          simp only [pickOps_cons, pickOps_nil, pick1_zero, pick1_succ]
          intro δf hCf
          go_wp2_with (fail)
          refine ⟨(by first | assumption | exact HCG.out _ _ hCf (by assumption) | (refine HCG.out _ _ hCf ?_; simp only [grow_grow]; exact (by repeat (first | with_reducible exact Grew.refl _ | with_reducible apply Grew.alloc | with_reducible apply Grew.grow | with_reducible apply Grew.drew | with_reducible apply Grew.drewN))) | exact HCG.out _ _ hCf (by repeat (first | with_reducible exact Grew.refl _ | with_reducible apply Grew.alloc | with_reducible apply Grew.grow | with_reducible apply Grew.drew | with_reducible apply Grew.drewN))), ?_⟩
          refine flowC_abs ?_
          intro Wbe hV
          have gW : Grew Wb Wbe := by rw [hV]; exact (by repeat (first | with_reducible exact Grew.refl _ | with_reducible apply Grew.alloc | with_reducible apply Grew.grow | with_reducible apply Grew.drew | with_reducible apply Grew.drewN))
          obtain ⟨b18, hb18⟩ : ∃ b18, Wb.heap.size + δf.n = b18 := ⟨_, rfl⟩
          have R15_Wbe : Hid (Wbe.rowAt b18 = wv 0 ∧ Wbe.rowFree b18 = true ∧ b18 < Wbe.heap.size) := Lib.hid ⟨by rw [hV, ← hb18]; simp [go_sem], by rw [hV, ← hb18]; simp [go_sem], by rw [hV, ← hb18]; simp⟩
          have Z15 := Lib.hid (show Z.heap.size ≤ b18 by have := (GG_Wb.out).size; omega)
          rw [hb18]
          have S9_Wbe := Lib.hid (S9_Wb.out.grew gW)
          have GG_Wbe := Lib.hid (GG_Wb.out.trans gW)
          clear hV gW hb18
          refine wpFlowC_one 7 (by decide +kernel) (by kernel_rfl) (by kernel_rfl) ?_
          unfold wpFlowCS
          simp only [pickOps_cons, pickOps_nil, pick1_zero, pick1_succ]
          intro δf hCf
          refine wpList_appendE2 Tot.cs_len (by decide) rfl _ _ _ rfl _ ii _ 72 under_ts hif hz hsz hby tot0_cells Tot.cs_one (Wbe.grow δf) _ (Wbe.grow δf).heap.size _ _ rfl rfl [] ps (Grew.refl _) (Nat.le_refl _) (Nat.le_refl _) (OwnE.nil _ _ _) (by exact (S10.out.grew (GG_Wbe.out)).grew (by repeat (first | with_reducible exact Grew.refl _ | with_reducible apply Grew.alloc | with_reducible apply Grew.grow | with_reducible apply Grew.drew | with_reducible apply Grew.drewN))) (by have := HPL.out; simp [maxLen]; omega) (by have := HPL.out; simp; omega) ?_
          intro v7 Wbea ho1 hg1
          rw [List.nil_append] at ho1
          have g1 : Grew Wbe Wbea := (show Grew Wbe _ from (by repeat (first | with_reducible exact Grew.refl _ | with_reducible apply Grew.alloc | with_reducible apply Grew.grow | with_reducible apply Grew.drew | with_reducible apply Grew.drewN))).trans hg1
          have O7_Wbea := Lib.hid (ho1.base (show Z.heap.size ≤ _ from ((GG_Wbe.out).trans (show Grew Wbe _ from (by repeat (first | with_reducible exact Grew.refl _ | with_reducible apply Grew.alloc | with_reducible apply Grew.grow | with_reducible apply Grew.drew | with_reducible apply Grew.drewN)))).size))
          have S9_Wbea := Lib.hid (S9_Wbe.out.grew g1)
          have R15_Wbea : Hid (Wbea.rowAt b18 = wv 0 ∧ Wbea.rowFree b18 = true ∧ b18 < Wbea.heap.size) := Lib.hid ⟨(Grew.rowAt g1 _ R15_Wbe.out.2.2).trans R15_Wbe.out.1, (Grew.rowFree g1 _ R15_Wbe.out.2.2).trans R15_Wbe.out.2.1, Nat.lt_of_lt_of_le R15_Wbe.out.2.2 (Grew.size g1)⟩
          have GG_Wbea := Lib.hid (GG_Wbe.out.trans g1)
          refine wpList_nil_then ?_
          refine ⟨GG_Wbea.out, ?_⟩
          clear ho1 hg1 g1
          refine wpFlowC_one 10 (by decide +kernel) (by kernel_rfl) (by kernel_rfl) ?_
          unfold wpFlowCS
          simp only [pickOps_cons, pickOps_nil, pick1_zero, pick1_succ]
          intro δf hCf
          refine wpList_appendE Tot.cs_len (by decide) rfl _ _ _ rfl _ ii _ 72 under_ts hif hz hsz hby tot0_cells Tot.cs_one Z _ Z.heap.size _ _ rfl rfl ps [T] ((GG_Wbea.out).grow _) (Nat.le_refl _) (by have := (GG_Wbea.out).size; simp; omega) (by exact O7_Wbea.out.grew (by repeat (first | with_reducible exact Grew.refl _ | with_reducible apply Grew.alloc | with_reducible apply Grew.grow | with_reducible apply Grew.drew | with_reducible apply Grew.drewN))) (by exact S9_Wbea.out.grew (by repeat (first | with_reducible exact Grew.refl _ | with_reducible apply Grew.alloc | with_reducible apply Grew.grow | with_reducible apply Grew.drew | with_reducible apply Grew.drewN))) (by have := HPL.out; simp [maxLen]; omega) (by have := HPL.out; simp; omega) (by simp) ?_
          intro v10 Wbeac ho1 hg1 hgb
          have O10_Wbeac := Lib.hid ho1
          have n15 := ownT_apart O7_Wbea.out b18 4 (by rw [R15_Wbea.out.1]; rfl) (by decide)
          have e15 : Wbeac.heap[b18]? = (Wbea.grow δf).heap[b18]? := hgb.block b18 (Nat.lt_of_lt_of_le R15_Wbea.out.2.2 (show Grew Wbea (Wbea.grow δf) from (by repeat (first | with_reducible exact Grew.refl _ | with_reducible apply Grew.alloc | with_reducible apply Grew.grow | with_reducible apply Grew.drew | with_reducible apply Grew.drewN))).size) (fun e => n15 e.symm)
          have R15_Wbeac : Hid (Wbeac.rowAt b18 = wv 0 ∧ Wbeac.rowFree b18 = true ∧ b18 < Wbeac.heap.size) := Lib.hid ⟨by rw [rowAt_of_heap e15, rowAt_grow_old _ _ _ R15_Wbea.out.2.2]; exact R15_Wbea.out.1, by rw [rowFree_of_heap e15, rowFree_grow_old _ _ _ R15_Wbea.out.2.2]; exact R15_Wbea.out.2.1, Nat.lt_of_lt_of_le R15_Wbea.out.2.2 (Nat.le_trans (show Grew Wbea (Wbea.grow δf) from (by repeat (first | with_reducible exact Grew.refl _ | with_reducible apply Grew.alloc | with_reducible apply Grew.grow | with_reducible apply Grew.drew | with_reducible apply Grew.drewN))).size hgb.size)⟩
          clear n15 e15
          have GG_Wbeac := Lib.hid hg1
          refine wpList_nil_then ?_
          refine ⟨hg1, ?_⟩
          clear ho1 hg1 hgb
          refine wpFlowC_one 11 (by decide +kernel) (by kernel_rfl) (by kernel_rfl) ?_
          unfold wpFlowCS
          simp only [pickOps_cons, pickOps_nil, pick1_zero, pick1_succ]
          intro δf hCf
          go_wp2_with (go_at_call 15; refine (CM.out _ _ ((OwnE.shows Tot.cs_len O10_Wbeac.out).grew (by repeat (first | with_reducible exact Grew.refl _ | with_reducible apply Grew.alloc | with_reducible apply Grew.grow | with_reducible apply Grew.drew | with_reducible apply Grew.drewN)))).mono ?_; rintro e Wbeacd ⟨rfl, hg1⟩)
          have gW : Grew Wbeac Wbeacd := (show Grew Wbeac _ from (by repeat (first | with_reducible exact Grew.refl _ | with_reducible apply Grew.alloc | with_reducible apply Grew.grow | with_reducible apply Grew.drew | with_reducible apply Grew.drewN))).trans hg1
          have O10_Wbeacd := Lib.hid (O10_Wbeac.out.grew gW)
          have R15_Wbeacd : Hid (Wbeacd.rowAt b18 = wv 0 ∧ Wbeacd.rowFree b18 = true ∧ b18 < Wbeacd.heap.size) := Lib.hid ⟨(Grew.rowAt gW _ R15_Wbeac.out.2.2).trans R15_Wbeac.out.1, (Grew.rowFree gW _ R15_Wbeac.out.2.2).trans R15_Wbeac.out.2.1, Nat.lt_of_lt_of_le R15_Wbeac.out.2.2 (Grew.size gW)⟩
          have GG_Wbeacd := Lib.hid (GG_Wbeac.out.trans gW)
          refine ⟨GG_Wbeacd.out, ?_⟩
          clear hg1 gW
          apply wpFlowC_quiets [12,13,14] HCG.out ⟨_, HC0.out⟩ (by decide +kernel) (by decide +kernel) (by kernel_rfl) (by intro _ _ _ d _ h; cases d <;> exact h) _
          · intro A hA Y hY
            simp only [pickOps_cons, pickOps_nil, pick1_zero, pick1_succ]
            repeat (go_big_quiet_step ((fail)))
            exact wpQuiet_nil hA.out.symm
          refine flowC_abs ?_
          intro V hV
          have gV : Grew Wbeacd V := by rw [hV]; exact (by repeat (first | with_reducible exact Grew.refl _ | with_reducible apply Grew.alloc | with_reducible apply Grew.grow | with_reducible apply Grew.drew | with_reducible apply Grew.drewN))
          have rr := R15_Wbeacd.out
          have v1 := (Grew.rowAt gV _ rr.2.2).trans rr.1
          have v2 := (Grew.rowFree gV _ rr.2.2).trans rr.2.1
          have v3 := Nat.lt_of_lt_of_le rr.2.2 gV.size
          have GV := Lib.hid (GG_Wbeacd.out.trans gV)
          clear hV gV rr
          refine wpFlowC_one 16 (by decide +kernel) (by kernel_rfl) (by kernel_rfl) ?_
          unfold wpFlowCS
          simp only [pickOps_cons, pickOps_nil, pick1_zero, pick1_succ]
          intro δf hCf
          go_wp2
          refine ⟨(Grew.setRow_new GV.out _ _ Z15.out).grow _, ?_⟩
          refine flowC_abs ?_
          intro V2 hV
          have GV2 := Lib.hid (show Grew Z V2 by rw [hV]; exact (Grew.setRow_new GV.out _ _ Z15.out).grow _)
          clear hV v1 v2 v3 hCf GV
          apply wpFlowC_quiets [17] HCG.out ⟨_, HC0.out⟩ (by decide +kernel) (by decide +kernel) (by kernel_rfl) (by intro _ _ _ d _ h; cases d <;> exact h) _
          · intro A hA Y hY
            simp only [pickOps_cons, pickOps_nil, pick1_zero, pick1_succ]
            repeat (go_big_quiet_step ((fail)))
            exact wpQuiet_nil hA.out.symm
          refine wpFlowC_end (by decide +kernel) (by kernel_rfl) ?_
          intro δf hCf
          refine exit_abs ?_
          intro U hU
          have gU : Grew Z U := by rw [hU]; exact GV2.out.trans (by repeat (first | with_reducible exact Grew.refl _ | with_reducible apply Grew.alloc | with_reducible apply Grew.grow | with_reducible apply Grew.drew | with_reducible apply Grew.drewN))
          have u12 := (Grew.rowAt gU _ l12).trans e12
          have u14 := (Grew.rowAt gU _ l14).trans e14
          have y12 := Nat.lt_of_lt_of_le l12 gU.size
          have y14 := Nat.lt_of_lt_of_le l14 gU.size
          have GF := Lib.hid (GZ.out.trans gU)
          clear hU gU hCf GV2
          go_wp2
          go_ret
          exact ⟨rfl, GF.out.trans (by repeat (first | with_reducible exact Grew.refl _ | with_reducible apply Grew.alloc | with_reducible apply Grew.grow | with_reducible apply Grew.drew | with_reducible apply Grew.drewN))⟩
      · unfold wpFlowCS
        simp only [pickOps_cons, pickOps_nil, pick1_zero, pick1_succ]
        intro δf hCf
        go_wp2_with (fail)
        refine ⟨(by first | assumption | exact HCG.out _ _ hCf (by assumption) | (refine HCG.out _ _ hCf ?_; simp only [grow_grow]; exact (by repeat (first | with_reducible exact Grew.refl _ | with_reducible apply Grew.alloc | with_reducible apply Grew.grow | with_reducible apply Grew.drew | with_reducible apply Grew.drewN))) | exact HCG.out _ _ hCf (by repeat (first | with_reducible exact Grew.refl _ | with_reducible apply Grew.alloc | with_reducible apply Grew.grow | with_reducible apply Grew.drew | with_reducible apply Grew.drewN))), ?_⟩
        refine flowC_abs ?_
        intro We hV
        have gW : Grew W0 We := by rw [hV]; exact (by repeat (first | with_reducible exact Grew.refl _ | with_reducible apply Grew.alloc | with_reducible apply Grew.grow | with_reducible apply Grew.drew | with_reducible apply Grew.drewN))
        obtain ⟨b18, hb18⟩ : ∃ b18, W0.heap.size + δf.n = b18 := ⟨_, rfl⟩
        have R15_We : Hid (We.rowAt b18 = wv 0 ∧ We.rowFree b18 = true ∧ b18 < We.heap.size) := Lib.hid ⟨by rw [hV, ← hb18]; simp [go_sem], by rw [hV, ← hb18]; simp [go_sem], by rw [hV, ← hb18]; simp⟩
        have Z15 := Lib.hid (show Z.heap.size ≤ b18 by have := (GG_W0.out).size; omega)
        rw [hb18]
        have GG_We := Lib.hid (GG_W0.out.trans gW)
        clear hV gW hb18
        refine wpFlowC_two 7 9 (by decide +kernel) (by kernel_rfl) (by kernel_rfl) ?_ ?_
        · unfold wpFlowCS
          simp only [pickOps_cons, pickOps_nil, pick1_zero, pick1_succ]
          intro δf hCf
          refine wpList_appendE2 Tot.cs_len (by decide) rfl _ _ _ rfl _ ii _ 72 under_ts hif hz hsz hby tot0_cells Tot.cs_one (We.grow δf) _ (We.grow δf).heap.size _ _ rfl rfl [] ps (Grew.refl _) (Nat.le_refl _) (Nat.le_refl _) (OwnE.nil _ _ _) (by exact (S10.out.grew (GG_We.out)).grew (by repeat (first | with_reducible exact Grew.refl _ | with_reducible apply Grew.alloc | with_reducible apply Grew.grow | with_reducible apply Grew.drew | with_reducible apply Grew.drewN))) (by have := HPL.out; simp [maxLen]; omega) (by have := HPL.out; simp; omega) ?_
          intro v7 Wea ho1 hg1
          rw [List.nil_append] at ho1
          have g1 : Grew We Wea := (show Grew We _ from (by repeat (first | with_reducible exact Grew.refl _ | with_reducible apply Grew.alloc | with_reducible apply Grew.grow | with_reducible apply Grew.drew | with_reducible apply Grew.drewN))).trans hg1
          have O7_Wea := Lib.hid (ho1.base (show Z.heap.size ≤ _ from ((GG_We.out).trans (show Grew We _ from (by repeat (first | with_reducible exact Grew.refl _ | with_reducible apply Grew.alloc | with_reducible apply Grew.grow | with_reducible apply Grew.drew | with_reducible apply Grew.drewN)))).size))
          have R15_Wea : Hid (Wea.rowAt b18 = wv 0 ∧ Wea.rowFree b18 = true ∧ b18 < Wea.heap.size) := Lib.hid ⟨(Grew.rowAt g1 _ R15_We.out.2.2).trans R15_We.out.1, (Grew.rowFree g1 _ R15_We.out.2.2).trans R15_We.out.2.1, Nat.lt_of_lt_of_le R15_We.out.2.2 (Grew.size g1)⟩
          have GG_Wea := Lib.hid (GG_We.out.trans g1)
          refine wpList_nil_then ?_
          refine ⟨GG_Wea.out, ?_⟩
          clear ho1 hg1 g1
          refine wpFlowC_one 9 (by decide +kernel) (by kernel_rfl) (by kernel_rfl) ?_
          unfold wpFlowCS
          simp only [pickOps_cons, pickOps_nil, pick1_zero, pick1_succ]
          intro δf hCf
          go_wp2_with (fail)
          refine ⟨(by first | assumption | exact HCG.out _ _ hCf (by assumption) | (refine HCG.out _ _ hCf ?_; simp only [grow_grow]; exact (by repeat (first | with_reducible exact Grew.refl _ | with_reducible apply Grew.alloc | with_reducible apply Grew.grow | with_reducible apply Grew.drew | with_reducible apply Grew.drewN))) | exact HCG.out _ _ hCf (by repeat (first | with_reducible exact Grew.refl _ | with_reducible apply Grew.alloc | with_reducible apply Grew.grow | with_reducible apply Grew.drew | with_reducible apply Grew.drewN))), ?_⟩
          refine flowC_abs ?_
          intro Weab hV
          have gW : Grew Wea Weab := by rw [hV]; exact (by repeat (first | with_reducible exact Grew.refl _ | with_reducible apply Grew.alloc | with_reducible apply Grew.grow | with_reducible apply Grew.drew | with_reducible apply Grew.drewN))
          have sh : ShowsT Weab (.slice (some ⟨Wea.heap.size + δf.n, 0, none⟩) 1 1) [T] := by rw [hV]; exact showsE_one_g Tot.cs_len Wea δf T _ _ (Nat.le_refl _)
          have S9_Weab := Lib.hid sh
          obtain ⟨b89, hb89⟩ : ∃ b89, Wea.heap.size + δf.n = b89 := ⟨_, rfl⟩
          rw [hb89] at S9_Weab ⊢
          have O7_Weab := Lib.hid (O7_Wea.out.grew gW)
          have R15_Weab : Hid (Weab.rowAt b18 = wv 0 ∧ Weab.rowFree b18 = true ∧ b18 < Weab.heap.size) := Lib.hid ⟨(Grew.rowAt gW _ R15_Wea.out.2.2).trans R15_Wea.out.1, (Grew.rowFree gW _ R15_Wea.out.2.2).trans R15_Wea.out.2.1, Nat.lt_of_lt_of_le R15_Wea.out.2.2 (Grew.size gW)⟩
          have GG_Weab := Lib.hid (GG_Wea.out.trans gW)
          clear hV gW sh hb89
          refine wpFlowC_one 10 (by decide +kernel) (by kernel_rfl) (by kernel_rfl) ?_
          unfold wpFlowCS
          simp only [pickOps_cons, pickOps_nil, pick1_zero, pick1_succ]
          intro δf hCf
          refine wpList_appendE Tot.cs_len (by decide) rfl _ _ _ rfl _ ii _ 72 under_ts hif hz hsz hby tot0_cells Tot.cs_one Z _ Z.heap.size _ _ rfl rfl ps [T] ((GG_Weab.out).grow _) (Nat.le_refl _) (by have := (GG_Weab.out).size; simp; omega) (by exact O7_Weab.out.grew (by repeat (first | with_reducible exact Grew.refl _ | with_reducible apply Grew.alloc | with_reducible apply Grew.grow | with_reducible apply Grew.drew | with_reducible apply Grew.drewN))) (by exact S9_Weab.out.grew (by repeat (first | with_reducible exact Grew.refl _ | with_reducible apply Grew.alloc | with_reducible apply Grew.grow | with_reducible apply Grew.drew | with_reducible apply Grew.drewN))) (by have := HPL.out; simp [maxLen]; omega) (by have := HPL.out; simp; omega) (by simp) ?_
          intro v10 Weabc ho1 hg1 hgb
          have O10_Weabc := Lib.hid ho1
          have n15 := ownT_apart O7_Weab.out b18 4 (by rw [R15_Weab.out.1]; rfl) (by decide)
          have e15 : Weabc.heap[b18]? = (Weab.grow δf).heap[b18]? := hgb.block b18 (Nat.lt_of_lt_of_le R15_Weab.out.2.2 (show Grew Weab (Weab.grow δf) from (by repeat (first | with_reducible exact Grew.refl _ | with_reducible apply Grew.alloc | with_reducible apply Grew.grow | with_reducible apply Grew.drew | with_reducible apply Grew.drewN))).size) (fun e => n15 e.symm)
          have R15_Weabc : Hid (Weabc.rowAt b18 = wv 0 ∧ Weabc.rowFree b18 = true ∧ b18 < Weabc.heap.size) := Lib.hid ⟨by rw [rowAt_of_heap e15, rowAt_grow_old _ _ _ R15_Weab.out.2.2]; exact R15_Weab.out.1, by rw [rowFree_of_heap e15, rowFree_grow_old _ _ _ R15_Weab.out.2.2]; exact R15_Weab.out.2.1, Nat.lt_of_lt_of_le R15_Weab.out.2.2 (Nat.le_trans (show Grew Weab (Weab.grow δf) from (by repeat (first | with_reducible exact Grew.refl _ | with_reducible apply Grew.alloc | with_reducible apply Grew.grow | with_reducible apply Grew.drew | with_reducible apply Grew.drewN))).size hgb.size)⟩
          clear n15 e15
          have GG_Weabc := Lib.hid hg1
          refine wpList_nil_then ?_
          refine ⟨hg1, ?_⟩
          clear ho1 hg1 hgb
          refine wpFlowC_one 11 (by decide +kernel) (by kernel_rfl) (by kernel_rfl) ?_
          unfold wpFlowCS
          simp only [pickOps_cons, pickOps_nil, pick1_zero, pick1_succ]
          intro δf hCf
          go_wp2_with (go_at_call 15; refine (CM.out _ _ ((OwnE.shows Tot.cs_len O10_Weabc.out).grew (by repeat (first | with_reducible exact Grew.refl _ | with_reducible apply Grew.alloc | with_reducible apply Grew.grow | with_reducible apply Grew.drew | with_reducible apply Grew.drewN)))).mono ?_; rintro e Weabcd ⟨rfl, hg1⟩)
          have gW : Grew Weabc Weabcd := (show Grew Weabc _ from (by repeat (first | with_reducible exact Grew.refl _ | with_reducible apply Grew.alloc | with_reducible apply Grew.grow | with_reducible apply Grew.drew | with_reducible apply Grew.drewN))).trans hg1
          have O10_Weabcd := Lib.hid (O10_Weabc.out.grew gW)
          have R15_Weabcd : Hid (Weabcd.rowAt b18 = wv 0 ∧ Weabcd.rowFree b18 = true ∧ b18 < Weabcd.heap.size) := Lib.hid ⟨(Grew.rowAt gW _ R15_Weabc.out.2.2).trans R15_Weabc.out.1, (Grew.rowFree gW _ R15_Weabc.out.2.2).trans R15_Weabc.out.2.1, Nat.lt_of_lt_of_le R15_Weabc.out.2.2 (Grew.size gW)⟩
          have GG_Weabcd := Lib.hid (GG_Weabc.out.trans gW)
          refine ⟨GG_Weabcd.out, ?_⟩
          clear hg1 gW
          apply wpFlowC_quiets [12,13,14] HCG.out ⟨_, HC0.out⟩ (by decide +kernel) (by decide +kernel) (by kernel_rfl) (by intro _ _ _ d _ h; cases d <;> exact h) _
          · intro A hA Y hY
            simp only [pickOps_cons, pickOps_nil, pick1_zero, pick1_succ]
            repeat (go_big_quiet_step ((fail)))
            exact wpQuiet_nil hA.out.symm
          refine flowC_abs ?_
          intro V hV
          have gV : Grew Weabcd V := by rw [hV]; exact (by repeat (first | with_reducible exact Grew.refl _ | with_reducible apply Grew.alloc | with_reducible apply Grew.grow | with_reducible apply Grew.drew | with_reducible apply Grew.drewN))
          have rr := R15_Weabcd.out
          have v1 := (Grew.rowAt gV _ rr.2.2).trans rr.1
          have v2 := (Grew.rowFree gV _ rr.2.2).trans rr.2.1
          have v3 := Nat.lt_of_lt_of_le rr.2.2 gV.size
          have GV := Lib.hid (GG_Weabcd.out.trans gV)
          clear hV gV rr
          refine wpFlowC_one 16 (by decide +kernel) (by kernel_rfl) (by kernel_rfl) ?_
          unfold wpFlowCS
          simp only [pickOps_cons, pickOps_nil, pick1_zero, pick1_succ]
          intro δf hCf
          go_wp2
          refine ⟨(Grew.setRow_new GV.out _ _ Z15.out).grow _, ?_⟩
          refine flowC_abs ?_
          intro V2 hV
          have GV2 := Lib.hid (show Grew Z V2 by rw [hV]; exact (Grew.setRow_new GV.out _ _ Z15.out).grow _)
          clear hV v1 v2 v3 hCf GV
          apply wpFlowC_quiets [17] HCG.out ⟨_, HC0.out⟩ (by decide +kernel) (by decide +kernel) (by kernel_rfl) (by intro _ _ _ d _ h; cases d <;> exact h) _
          · intro A hA Y hY
            simp only [pickOps_cons, pickOps_nil, pick1_zero, pick1_succ]
            repeat (go_big_quiet_step ((fail)))
            exact wpQuiet_nil hA.out.symm
          refine wpFlowC_end (by decide +kernel) (by kernel_rfl) ?_
          intro δf hCf
          refine exit_abs ?_
          intro U hU
          have gU : Grew Z U := by rw [hU]; exact GV2.out.trans (by repeat (first | with_reducible exact Grew.refl _ | with_reducible apply Grew.alloc | with_reducible apply Grew.grow | with_reducible apply Grew.drew | with_reducible apply Grew.drewN))
          have u12 := (Grew.rowAt gU _ l12).trans e12
          have u14 := (Grew.rowAt gU _ l14).trans e14
          have y12 := Nat.lt_of_lt_of_le l12 gU.size
          have y14 := Nat.lt_of_lt_of_le l14 gU.size
          have GF := Lib.hid (GZ.out.trans gU)
          clear hU gU hCf GV2
          go_wp2
          go_ret
          exact ⟨rfl, GF.out.trans (by repeat (first | with_reducible exact Grew.refl _ | with_reducible apply Grew.alloc | with_reducible apply Grew.grow | with_reducible apply Grew.drew | with_reducible apply Grew.drewN))⟩
        · unfold wpFlowCS
          simp only [pickOps_cons, pickOps_nil, pick1_zero, pick1_succ]
          intro δf hCf
          go_wp2_with (fail)
          refine ⟨(by first | assumption | exact HCG.out _ _ hCf (by assumption) | (refine HCG.out _ _ hCf ?_; simp only [grow_grow]; exact (by repeat (first | with_reducible exact Grew.refl _ | with_reducible apply Grew.alloc | with_reducible apply Grew.grow | with_reducible apply Grew.drew | with_reducible apply Grew.drewN))) | exact HCG.out _ _ hCf (by repeat (first | with_reducible exact Grew.refl _ | with_reducible apply Grew.alloc | with_reducible apply Grew.grow | with_reducible apply Grew.drew | with_reducible apply Grew.drewN))), ?_⟩
          refine flowC_abs ?_
          intro Web hV
          have gW : Grew We Web := by rw [hV]; exact (by repeat (first | with_reducible exact Grew.refl _ | with_reducible apply Grew.alloc | with_reducible apply Grew.grow | with_reducible apply Grew.drew | with_reducible apply Grew.drewN))
          have sh : ShowsT Web (.slice (some ⟨We.heap.size + δf.n, 0, none⟩) 1 1) [T] := by rw [hV]; exact showsE_one_g Tot.cs_len We δf T _ _ (Nat.le_refl _)
          have S9_Web := Lib.hid sh
          obtain ⟨b89, hb89⟩ : ∃ b89, We.heap.size + δf.n = b89 := ⟨_, rfl⟩
          rw [hb89] at S9_Web ⊢
          have R15_Web : Hid (Web.rowAt b18 = wv 0 ∧ Web.rowFree b18 = true ∧ b18 < Web.heap.size) := Lib.hid ⟨(Grew.rowAt gW _ R15_We.out.2.2).trans R15_We.out.1, (Grew.rowFree gW _ R15_We.out.2.2).trans R15_We.out.2.1, Nat.lt_of_lt_of_le R15_We.out.2.2 (Grew.size gW)⟩
          have GG_Web := Lib.hid (GG_We.out.trans gW)
          clear hV gW sh hb89
          refine wpFlowC_one 7 (by decide +kernel) (by kernel_rfl) (by kernel_rfl) ?_
          unfold wpFlowCS
          simp only [pickOps_cons, pickOps_nil, pick1_zero, pick1_succ]
          intro δf hCf
          refine wpList_appendE2 Tot.cs_len (by decide) rfl _ _ _ rfl _ ii _ 72 under_ts hif hz hsz hby tot0_cells Tot.cs_one (Web.grow δf) _ (Web.grow δf).heap.size _ _ rfl rfl [] ps (Grew.refl _) (Nat.le_refl _) (Nat.le_refl _) (OwnE.nil _ _ _) (by exact (S10.out.grew (GG_Web.out)).grew (by repeat (first | with_reducible exact Grew.refl _ | with_reducible apply Grew.alloc | with_reducible apply Grew.grow | with_reducible apply Grew.drew | with_reducible apply Grew.drewN))) (by have := HPL.out; simp [maxLen]; omega) (by have := HPL.out; simp; omega) ?_
          intro v7 Weba ho1 hg1
          rw [List.nil_append] at ho1
          have g1 : Grew Web Weba := (show Grew Web _ from (by repeat (first | with_reducible exact Grew.refl _ | with_reducible apply Grew.alloc | with_reducible apply Grew.grow | with_reducible apply Grew.drew | with_reducible apply Grew.drewN))).trans hg1
          have O7_Weba := Lib.hid (ho1.base (show Z.heap.size ≤ _ from ((GG_Web.out).trans (show Grew Web _ from (by repeat (first | with_reducible exact Grew.refl _ | with_reducible apply Grew.alloc | with_reducible apply Grew.grow | with_reducible apply Grew.drew | with_reducible apply Grew.drewN)))).size))
          have S9_Weba := Lib.hid (S9_Web.out.grew g1)
          have R15_Weba : Hid (Weba.rowAt b18 = wv 0 ∧ Weba.rowFree b18 = true ∧ b18 < Weba.heap.size) := Lib.hid ⟨(Grew.rowAt g1 _ R15_Web.out.2.2).trans R15_Web.out.1, (Grew.rowFree g1 _ R15_Web.out.2.2).trans R15_Web.out.2.1, Nat.lt_of_lt_of_le R15_Web.out.2.2 (Grew.size g1)⟩
          have GG_Weba := Lib.hid (GG_Web.out.trans g1)
          refine wpList_nil_then ?_
          refine ⟨GG_Weba.out, ?_⟩
          clear ho1 hg1 g1
          refine wpFlowC_one 10 (by decide +kernel) (by kernel_rfl) (by kernel_rfl) ?_
          unfold wpFlowCS
          simp only [pickOps_cons, pickOps_nil, pick1_zero, pick1_succ]
          intro δf hCf
          refine wpList_appendE Tot.cs_len (by decide) rfl _ _ _ rfl _ ii _ 72 under_ts hif hz hsz hby tot0_cells Tot.cs_one Z _ Z.heap.size _ _ rfl rfl ps [T] ((GG_Weba.out).grow _) (Nat.le_refl _) (by have := (GG_Weba.out).size; simp; omega) (by exact O7_Weba.out.grew (by repeat (first | with_reducible exact Grew.refl _ | with_reducible apply Grew.alloc | with_reducible apply Grew.grow | with_reducible apply Grew.drew | with_reducible apply Grew.drewN))) (by exact S9_Weba.out.grew (by repeat (first | with_reducible exact Grew.refl _ | with_reducible apply Grew.alloc | with_reducible apply Grew.grow | with_reducible apply Grew.drew | with_reducible apply Grew.drewN))) (by have := HPL.out; simp [maxLen]; omega) (by have := HPL.out; simp; omega) (by simp) ?_
          intro v10 Webac ho1 hg1 hgb
          have O10_Webac := Lib.hid ho1
          have n15 := ownT_apart O7_Weba.out b18 4 (by rw [R15_Weba.out.1]; rfl) (by decide)
          have e15 : Webac.heap[b18]? = (Weba.grow δf).heap[b18]? := hgb.block b18 (Nat.lt_of_lt_of_le R15_Weba.out.2.2 (show Grew Weba (Weba.grow δf) from (by repeat (first | with_reducible exact Grew.refl _ | with_reducible apply Grew.alloc | with_reducible apply Grew.grow | with_reducible apply Grew.drew | with_reducible apply Grew.drewN))).size) (fun e => n15 e.symm)
          have R15_Webac : Hid (Webac.rowAt b18 = wv 0 ∧ Webac.rowFree b18 = true ∧ b18 < Webac.heap.size) := Lib.hid ⟨by rw [rowAt_of_heap e15, rowAt_grow_old _ _ _ R15_Weba.out.2.2]; exact R15_Weba.out.1, by rw [rowFree_of_heap e15, rowFree_grow_old _ _ _ R15_Weba.out.2.2]; exact R15_Weba.out.2.1, Nat.lt_of_lt_of_le R15_Weba.out.2.2 (Nat.le_trans (show Grew Weba (Weba.grow δf) from (by repeat (first | with_reducible exact Grew.refl _ | with_reducible apply Grew.alloc | with_reducible apply Grew.grow | with_reducible apply Grew.drew | with_reducible apply Grew.drewN))).size hgb.size)⟩
          clear n15 e15
          have GG_Webac := Lib.hid hg1
          refine wpList_nil_then ?_
          refine ⟨hg1, ?_⟩
          clear ho1 hg1 hgb
          refine wpFlowC_one 11 (by decide +kernel) (by kernel_rfl) (by kernel_rfl) ?_
          unfold wpFlowCS
          simp only [pickOps_cons, pickOps_nil, pick1_zero, pick1_succ]
          intro δf hCf
          go_wp2_with (go_at_call 15; refine (CM.out _ _ ((OwnE.shows Tot.cs_len O10_Webac.out).grew (by repeat (first | with_reducible exact Grew.refl _ | with_reducible apply Grew.alloc | with_reducible apply Grew.grow | with_reducible apply Grew.drew | with_reducible apply Grew.drewN)))).mono ?_; rintro e Webacd ⟨rfl, hg1⟩)
          have gW : Grew Webac Webacd := (show Grew Webac _ from (by repeat (first | with_reducible exact Grew.refl _ | with_reducible apply Grew.alloc | with_reducible apply Grew.grow | with_reducible apply Grew.drew | with_reducible apply Grew.drewN))).trans hg1
          have O10_Webacd := Lib.hid (O10_Webac.out.grew gW)
          have R15_Webacd : Hid (Webacd.rowAt b18 = wv 0 ∧ Webacd.rowFree b18 = true ∧ b18 < Webacd.heap.size) := Lib.hid ⟨(Grew.rowAt gW _ R15_Webac.out.2.2).trans R15_Webac.out.1, (Grew.rowFree gW _ R15_Webac.out.2.2).trans R15_Webac.out.2.1, Nat.lt_of_lt_of_le R15_Webac.out.2.2 (Grew.size gW)⟩
          have GG_Webacd := Lib.hid (GG_Webac.out.trans gW)
          refine ⟨GG_Webacd.out, ?_⟩
          clear hg1 gW
          apply wpFlowC_quiets [12,13,14] HCG.out ⟨_, HC0.out⟩ (by decide +kernel) (by decide +kernel) (by kernel_rfl) (by intro _ _ _ d _ h; cases d <;> exact h) _
          · intro A hA Y hY
            simp only [pickOps_cons, pickOps_nil, pick1_zero, pick1_succ]
            repeat (go_big_quiet_step ((fail)))
            exact wpQuiet_nil hA.out.symm
          refine flowC_abs ?_
          intro V hV
          have gV : Grew Webacd V := by rw [hV]; exact (by repeat (first | with_reducible exact Grew.refl _ | with_reducible apply Grew.alloc | with_reducible apply Grew.grow | with_reducible apply Grew.drew | with_reducible apply Grew.drewN))
          have rr := R15_Webacd.out
          have v1 := (Grew.rowAt gV _ rr.2.2).trans rr.1
          have v2 := (Grew.rowFree gV _ rr.2.2).trans rr.2.1
          have v3 := Nat.lt_of_lt_of_le rr.2.2 gV.size
          have GV := Lib.hid (GG_Webacd.out.trans gV)
          clear hV gV rr
          refine wpFlowC_one 16 (by decide +kernel) (by kernel_rfl) (by kernel_rfl) ?_
          unfold wpFlowCS
          simp only [pickOps_cons, pickOps_nil, pick1_zero, pick1_succ]
          intro δf hCf
          go_wp2
          refine ⟨(Grew.setRow_new GV.out _ _ Z15.out).grow _, ?_⟩
          refine flowC_abs ?_
          intro V2 hV
          have GV2 := Lib.hid (show Grew Z V2 by rw [hV]; exact (Grew.setRow_new GV.out _ _ Z15.out).grow _)
          clear hV v1 v2 v3 hCf GV
          apply wpFlowC_quiets [17] HCG.out ⟨_, HC0.out⟩ (by decide +kernel) (by decide +kernel) (by kernel_rfl) (by intro _ _ _ d _ h; cases d <;> exact h) _
          · intro A hA Y hY
            simp only [pickOps_cons, pickOps_nil, pick1_zero, pick1_succ]
            repeat (go_big_quiet_step ((fail)))
            exact wpQuiet_nil hA.out.symm
          refine wpFlowC_end (by decide +kernel) (by kernel_rfl) ?_
          intro δf hCf
          refine exit_abs ?_
          intro U hU
          have gU : Grew Z U := by rw [hU]; exact GV2.out.trans (by repeat (first | with_reducible exact Grew.refl _ | with_reducible apply Grew.alloc | with_reducible apply Grew.grow | with_reducible apply Grew.drew | with_reducible apply Grew.drewN))
          have u12 := (Grew.rowAt gU _ l12).trans e12
          have u14 := (Grew.rowAt gU _ l14).trans e14
          have y12 := Nat.lt_of_lt_of_le l12 gU.size
          have y14 := Nat.lt_of_lt_of_le l14 gU.size
          have GF := Lib.hid (GZ.out.trans gU)
          clear hU gU hCf GV2
          go_wp2
          go_ret
          exact ⟨rfl, GF.out.trans (by repeat (first | with_reducible exact Grew.refl _ | with_reducible apply Grew.alloc | with_reducible apply Grew.grow | with_reducible apply Grew.drew | with_reducible apply Grew.drewN))⟩
end Go.Proofs.Ytnhcamklammcdaa
namespace Go.Proofs.Ytnhcamklammcdaa.mmrPaths
set_option linter.unusedVariables false
set_option linter.unusedSimpArgs false
open Go.ChangeShapes Go.WideShapes Go.ChangeAt Go.RowKit

set_option maxRecDepth 100000 in
theorem lifted (os : Os) (started : os.Started) (H : Type) (enc : TypeId × Value → H) :
    ReturnsInHanded {} Try.checked os 6 .any (Rows.mmrPathsSpec.pre6 enc Try.prog Try.f6 Rows.mmrPathsRow.domain false) (Rows.mmrPathsSpec.post enc Try.prog Try.f6 false true false false) := by
  refine returnsInHanded_of_change (C := Try.checked) own started (by kernel_rfl) Try.func6
    (ChangeSpec.witness6 (enc := enc) (C := Try.checked) false ⟨#[], #[.slice none 0 0, .slice none 0 0, .int .i64 0], []⟩ 8 (by kernel_rfl) (by kernel_rfl) (by kernel_rfl) (by kernel_rfl)) ?_
  intro W base args ds gs before hval0 hW _ _
  have hval : ∀ (j : Nat) t v, Try.f6.params[j]? = some t → args[j]? = some v → Value.okWide Try.prog W .any base t v := hval0
  have hW' := hW
  obtain ⟨p, q, hA0, hV, rfl, hfz, hnd⟩ := hW
  have hA : DataW.TrodAll enc Try.prog W 0 (fun _ => true) true Try.f6.params.toList args.toList ds p := hA0
  have hAk := hA
  rw [Try.params6] at hA hval
  obtain ⟨v0, vs0, d0, ds0, p0, q0, hargs0, rfl, rfl, h0, r0⟩ := trodAll_cons hA
  obtain ⟨v1, vs1, d1, ds1, p1, q1, hargs1, rfl, rfl, h1, r1⟩ := trodAll_cons r0
  obtain ⟨v2, vs2, d2, ds2, p2, q2, hargs2, rfl, rfl, h2, r2⟩ := trodAll_cons r1
  obtain ⟨rfl, rfl, rfl⟩ := trodAll_nil r2
  subst hargs2
  subst hargs1
  obtain rfl : args = #[v0, v1, v2] := by cases args; simp_all
  obtain ⟨rfl, rfl⟩ := trodVars_none hV
  obtain ⟨q0', n0', c0', rfl⟩ := okWide_slice Try.underlying43 (hval 0 43 v0 rfl rfl)
  obtain ⟨aq0, ac0, al0, ae0, am0, as0⟩ := open_ids h0 rfl
  rw [ae0]
  obtain ⟨q1', n1', c1', rfl⟩ := okWide_slice Try.underlying44 (hval 1 44 v1 rfl rfl)
  obtain ⟨aq1, ac1, al1, ae1, ab1, am1, as1⟩ := open_u32s h1 rfl
  rw [ae1]
  obtain ⟨a2, rfl, rfl, _, w2⟩ := open_int Try.underlying3 (hval 2 3 v2 rfl rfl) h2
  simp only [List.append_nil] at hW'
  refine (mmrPaths_walk aq0 ac0 al0 am0 aq1 ac1 al1 ab1 am1 a2 W as0 as1).mono fun e W' ⟨he, hg⟩ => ?_
  subst he
  rw [← ae0]
  rw [← ae1]
  exact ⟨_, rfl, post_of_stays hW' rfl (by simpa using hAk) (types_ok _ (by rw [Try.params6]; kernel_rfl)) rfl rfl (fun _ _ _ => (trodAll_cons_mk (shut_bool Try.underlying4 _) trodAll_mk0))
    hg (ok_one (by kernel_rfl) rfl (okWide_bool_mk Try.underlying4 _))⟩

theorem proved : Rows.MmrPathsSaid :=
  OpenClaim.holds_of_wide 6 Try.f6 rfl rfl rfl rfl rfl rfl rfl ⟨rfl, rfl, rfl, rfl, rfl⟩ rfl rfl rfl rfl rfl (by kernel_rfl) Try.func6 (by kernel_rfl)
    (of_decide_eq_true (by kernel_rfl)) (by unfold Func.isWrapper; first | (rw [if_pos (by decide +kernel)]; kernel_rfl) | (rw [if_neg (by decide +kernel)]; exact ⟨rfl, rfl⟩))
    (fun os started H enc _ => lifted os started H enc)
end Go.Proofs.Ytnhcamklammcdaa.mmrPaths
