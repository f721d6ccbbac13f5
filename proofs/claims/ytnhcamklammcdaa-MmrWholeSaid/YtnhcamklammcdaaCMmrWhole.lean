/- 'stepladderlaw06.MmrWhole' answers true for every slice of ids, slice of numbers of 32 bits, without panicking, and what it was handed reads as before. Conditions: none. -/
import Derived.Test.YtnhcamklammcdaaRows
import Derived.Test.YtnhcamklammcdaaM7
/- The walk of MmrWhole (printed in part by gen_law6.py). -/
namespace Go.Proofs.Ytnhcamklammcdaa
set_option linter.unusedVariables false
set_option linter.unusedSimpArgs false
open Go.RowKit
set_option maxRecDepth 100000
theorem whole_facts (ls : List Tot) (hb : ls.length ≤ 1000000) (ho : Ones ls) (hs : wsum ls < B256) : peakL (peaksL ls) = allT ls ∧ (allT ls).n = (ls.length : Int) ∧ (allT ls).w = Wd.of (wsum ls) := by
  rcases Nat.eq_zero_or_pos ls.length with h0 | h0
  · obtain rfl : ls = [] := List.length_eq_zero_iff.1 h0
    exact ⟨rfl, rfl, wsum_zero.symm⟩
  · obtain ⟨h1, h2⟩ := allT_nw ls.length ls (Nat.le_refl _) h0 (by omega) ho
    exact ⟨root_peaks ls h0 (by omega) ho, h1, Wd.ext' (by rw [h2, Wd.of_n])⟩
set_option maxHeartbeats 12800000 in
theorem mmrWhole_walk (q : Option Addr) (c : Nat) (l : List Idb) (hm : l.length ≤ maxLen) (q1 : Option Addr) (c1 : Nat) (wk : List Nat) (hb1 : ∀ x ∈ wk, x < 4294967296) (hm1 : wk.length ≤ maxLen) (w : World) (hs : ShowsI w (.slice q l.length c) l) (hs1 : Shows w (.slice q1 wk.length c1) (nvs wk)) :
    Calls Try.prog 5 #[.slice q l.length c, .slice q1 wk.length c1] w fun e w' => e = .returned (.bool true) ∧ Grew w w' := by
  have HS := Lib.hid hs
  have HS1 := Lib.hid hs1
  have HW1 := Lib.hid hb1
  clear hs hm hs1 hm1 hb1
  obtain ⟨N, hN⟩ : ∃ N, l.length = N := ⟨_, rfl⟩
  obtain ⟨N1, hN1⟩ : ∃ N, wk.length = N := ⟨_, rfl⟩
  have HN := Lib.hid hN
  rw [hN] at HS ⊢
  rw [hN1] at HS1 ⊢
  clear hN hN1
  by_cases h1 : 64 < (N : Int)
  · go_enter Try.func5, Try.ntmps5
    go_wp2_with (go_at_call 9; refine (awake_w _).mono ?_; rintro e w' ⟨rfl, δ, rfl⟩)
    go_ret
    exact ⟨rfl, (by repeat (first | with_reducible exact Grew.refl _ | with_reducible apply Grew.alloc | with_reducible apply Grew.grow | with_reducible apply Grew.drew | with_reducible apply Grew.drewN))⟩
  have hN64 : N ≤ 64 := by omega
  have CL := Lib.hid (fun W (g : Grew w W) => leaves_w l wk (.slice q N c) (.slice q1 N1 c1) W (HS.out.grew g) (HS1.out.grew g) (by rw [HN.out]; omega) HW1.out)
  rw [HN.out] at CL
  have hll := leavesT_len l wk N
  have hon := leaves_ones l wk N
  have hsum := leaves_sum l wk HW1.out N (by omega)
  obtain ⟨ls, hls⟩ : ∃ ls, leavesT l wk N = ls := ⟨_, rfl⟩
  rw [hls] at CL hll hon hsum
  obtain ⟨hroot, hTn, hTw⟩ := whole_facts ls (by omega) hon hsum
  rw [hll] at hTn
  have CPk := Lib.hid (fun W v (h : ShowsT W v ls) => peaks_w ls v W h (by omega))
  have CR := Lib.hid (fun W v (h : ShowsT W v (peaksL ls)) => root_w (peaksL ls) v W (by have := peaksL_len N ls hll; omega) h)
  have CAl := Lib.hid (fun W v (h : ShowsT W v ls) => rall_w N ls v W (by omega) (by omega) h)
  rw [hroot] at CR
  obtain ⟨fs, hfs1, hfs2, hfs3⟩ := peaks_fall ls (by omega) hon
  rw [hll] at hfs3
  have hfl := congrArg List.length hfs1
  rw [List.length_map, List.length_map] at hfl
  obtain ⟨ps, hps⟩ : ∃ ps, peaksL ls = ps := ⟨_, rfl⟩
  obtain ⟨T, hT⟩ : ∃ T, allT ls = T := ⟨_, rfl⟩
  obtain ⟨A, hA⟩ : ∃ A, Wd.of (wsum ls) = A := ⟨_, rfl⟩
  have hpsl : ps.length ≤ N := by rw [← hps]; exact peaksL_len N ls hll
  have HPSL := Lib.hid hpsl
  rw [hps] at CPk CR hfs1 hfl
  rw [hT] at CR CAl hTn hTw
  rw [hA] at hTw
  have c7 : ∀ W, Calls Try.prog 27 #[.int .u64 0] W fun e w' => e = .returned (.agg (wv 0)) ∧ Grew W w' := fun W => wof_w 0 (by omega) W
  have C7 := Lib.hid c7
  have hTl := T.h.len
  have hAl := A.lt
  unfold Tot.v at CR CAl
  have HLS := Lib.hid hll
  have HA := Lib.hid hA
  have HF1 := Lib.hid hfs1
  have HF2 := Lib.hid hfs2
  have HF3 := Lib.hid hfs3
  have HFL := Lib.hid hfl
  have HTN := Lib.hid hTn
  have eT : Tot.eq T T = true := (Tot.eq_iff _ _).2 rfl
  have eW : weq T.w.n A.n = true := Wd.eq_of (by rw [hTw])
  clear hll hon hsum hls hroot hTn hTw hfs1 hfs2 hfs3 hfl hpsl hps hT hA c7 HS HS1
  go_enter Try.func5, Try.ntmps5
  go_wp2_with (first | (go_at_call 9; refine (awake_w _).mono ?_; rintro e w' ⟨rfl, δ, rfl⟩) | (go_at_call 25; refine stop_of ?_))
  unfold Stop
  refine (CL.out _ (by repeat (first | with_reducible exact Grew.refl _ | with_reducible apply Grew.alloc | with_reducible apply Grew.grow | with_reducible apply Grew.drew | with_reducible apply Grew.drewN))).mono ?_
  rintro e X ⟨v8, rfl, ho, hg⟩
  have GX := Lib.hid ((show Grew w _ from (by repeat (first | with_reducible exact Grew.refl _ | with_reducible apply Grew.alloc | with_reducible apply Grew.grow | with_reducible apply Grew.drew | with_reducible apply Grew.drewN))).trans hg)
  have O8 := Lib.hid (OwnE.shows Tot.cs_len ho)
  obtain ⟨p8, k8, rfl⟩ := ownE_len ho
  clear hg ho CL
  rw [HLS.out] at O8 ⊢
  go_wp2_with (go_at_call 26; refine stop_of ?_)
  unfold Stop
  refine (CPk.out _ _ O8.out).mono ?_
  rintro e X1 ⟨v43, rfl, ho, hg⟩
  have O7 := Lib.hid (OwnE.shows Tot.cs_len ho)
  obtain ⟨p7, k7, rfl⟩ := ownE_len ho
  replace O8 := Lib.hid (O8.out.grew hg)
  replace GX := Lib.hid (GX.out.trans hg)
  clear hg ho CPk
  obtain ⟨M, hM⟩ : ∃ M, ps.length = M := ⟨_, rfl⟩
  have HM := Lib.hid hM
  rw [hM] at O7 ⊢
  clear hM
  go_wp2_with (go_at_call 27; refine stop_of ?_)
  unfold Stop
  refine (C7.out _).mono ?_
  rintro e B ⟨rfl, hg⟩
  replace O8 := Lib.hid (O8.out.grew hg)
  replace O7 := Lib.hid (O7.out.grew hg)
  replace GX := Lib.hid (GX.out.trans hg)
  clear hg C7
  go_wp2
  refine code_abs ?_
  intro W0 hW0
  obtain ⟨b8, hb8⟩ : ∃ b8, B.heap.size = b8 := ⟨_, rfl⟩
  have I1 : W0.rowAt b8 = wv Wd.zero.n := by rw [hW0, ← hb8]; simp [go_sem]; rfl
  have I2 : W0.rowFree b8 = true := by rw [hW0, ← hb8]; simp [go_sem]
  have I3 : b8 < W0.heap.size := by rw [hW0, ← hb8]; simp
  have I4 : Grew B W0 := by rw [hW0]; exact (by repeat (first | with_reducible exact Grew.refl _ | with_reducible apply Grew.alloc | with_reducible apply Grew.grow | with_reducible apply Grew.drew | with_reducible apply Grew.drewN))
  rw [hb8]
  have HBB := Lib.hid (Nat.le_of_eq hb8)
  clear hW0 hb8
  go_loopw [9] (fun n wr => ∃ (k : Nat) (s : Wd), k ≤ N ∧ n = .int .i64 k ∧ s = Wd.of (wsum (ls.take k)) ∧ wr.rowAt b8 = wv s.n ∧ wr.rowFree b8 = true ∧ b8 < wr.heap.size ∧ Grew B wr) (fun n _ => N - (intOf n).toNat)
  case atStart => exact ⟨0, Wd.zero, by omega, rfl, by rw [List.take_zero, wsum_zero], I1, I2, I3, I4⟩
  case round =>
    obtain ⟨k, s, hk, rfl, hs, pb, fb, lb, hg⟩ := hrel
    have HG := Lib.hid hg
    have HS2 := Lib.hid hs
    clear hg hs I1 I2 I3 I4
    by_cases hn : k < N
    · have hlt : (k : Int) < (N : Int) := by omega
      obtain ⟨y, hy⟩ : ∃ y, ls[k]? = some y := ⟨_, List.getElem?_eq_getElem (by rw [HLS.out]; omega)⟩
      have hst := wsum_snoc ls k y hy
      have HST := Lib.hid hst
      have hvv : ShowsT B (.slice p8 ls.length k8) ls := by rw [HLS.out]; exact O8.out
      obtain ⟨b, o, rfl, -, hcc, hb, hat⟩ := showsT_some hvv (by rw [HLS.out]; omega)
      have hr := rangeAt_grew (hat k y hy) HG.out
      have HR := Lib.hid hr
      have HK := Lib.hid hn
      have hadd := fun W => wadd_w s y.w W
      have HADD := Lib.hid hadd
      have hsl := s.lt
      have hyl := y.h.len
      have hbw : b < wr.heap.size := Nat.lt_of_lt_of_le hb HG.out.size
      have kI : (k : Int) ≤ 64 := by omega
      clear hst hr hadd hn hy hk hvv hcc hb hat
      have HCG := Lib.hid (fun (W W' : World) (h : Grew wr W) (g : Grew W W') => h.trans g)
      have HC0 := Lib.hid (Grew.refl wr)
      go_wp2
      refine wp_region_flowC (Grew wr) HCG.out HC0.out (by kernel_rfl) ?_
      intro δf
      apply wpFlowC_quiets [0,1,2,3,4,5,6,7,8,9] HCG.out ⟨_, HC0.out⟩ (by decide +kernel) (by decide +kernel) (by kernel_rfl) (by intro _ _ _ d _ h; cases d <;> exact h) _
      · intro A hA Y hY
        (have d0 := (Grew.rowAt hY _ lb).trans pb; have lY : b8 < Y.heap.size := Nat.lt_of_lt_of_le lb hY.size; have lL : b < Y.heap.size := Nat.lt_of_lt_of_le hbw hY.size; have ldw : ∀ n, (rowLoad 27 (.pointer (some ⟨b, o + k * 37 + 32, none⟩))).run Try.prog (Y.grow n) = .ok (.value (.agg (wv y.w.n))) (Y.grow n) := fun n => load_totWm (rangeAt_grew (rangeAt_grew HR.out hY) ⟨n, rfl⟩))
        simp only [pickOps_cons, pickOps_nil, pick1_zero, pick1_succ]
        repeat (go_big_quiet_step ((go_at_call 24; exact Calls.pure_of (HADD.out _))))
        exact wpQuiet_nil hA.out.symm
      refine flowC_abs ?_
      intro V hV
      have gV : Grew wr V := by rw [hV]; exact (by repeat (first | with_reducible exact Grew.refl _ | with_reducible apply Grew.alloc | with_reducible apply Grew.grow | with_reducible apply Grew.drew | with_reducible apply Grew.drewN))
      have GV := Lib.hid gV
      have zV := gV.size
      clear hV gV
      refine wpFlowC_one 10 (by decide +kernel) (by kernel_rfl) (by kernel_rfl) ?_
      unfold wpFlowCS
      simp only [pickOps_cons, pickOps_nil, pick1_zero, pick1_succ]
      intro δf hCf
      go_wp2_with (fail)
      refine ⟨(by first | assumption | exact HCG.out _ _ hCf (by assumption) | (refine HCG.out _ _ hCf ?_; simp only [grow_grow]; exact (by repeat (first | with_reducible exact Grew.refl _ | with_reducible apply Grew.alloc | with_reducible apply Grew.grow | with_reducible apply Grew.drew | with_reducible apply Grew.drewN))) | exact HCG.out _ _ hCf (by repeat (first | with_reducible exact Grew.refl _ | with_reducible apply Grew.alloc | with_reducible apply Grew.grow | with_reducible apply Grew.drew | with_reducible apply Grew.drewN))), ?_⟩
      refine flowC_abs ?_
      intro V1 hV
      have q1 : V1.rowAt (V.heap.size + δf.n) = wv 0 := by rw [hV]; simp [go_sem]
      have q2 : V1.rowFree (V.heap.size + δf.n) = true := by rw [hV]; simp [go_sem]
      have q3 : V.heap.size + δf.n < V1.heap.size := by rw [hV]; simp
      have gV1 : Grew V V1 := by rw [hV]; exact (by repeat (first | with_reducible exact Grew.refl _ | with_reducible apply Grew.alloc | with_reducible apply Grew.grow | with_reducible apply Grew.drew | with_reducible apply Grew.drewN))
      obtain ⟨b16, hb16⟩ : ∃ b16, V.heap.size + δf.n = b16 := ⟨_, rfl⟩
      have zb : wr.heap.size ≤ b16 := by omega
      have GV1 := Lib.hid (GV.out.trans gV1)
      rw [hb16] at q1 q2 q3 ⊢
      clear hV gV1 hb16 GV
      refine wpFlowC_one 11 (by decide +kernel) (by kernel_rfl) (by kernel_rfl) ?_
      unfold wpFlowCS
      simp only [pickOps_cons, pickOps_nil, pick1_zero, pick1_succ]
      intro δf hCf
      go_wp2
      refine ⟨(Grew.setRow_new GV1.out _ _ zb).grow _, ?_⟩
      refine flowC_abs ?_
      intro V2 hV
      have gV2 : Grew wr V2 := by rw [hV]; exact (Grew.setRow_new GV1.out _ _ zb).grow _
      have r16 : V2.rowAt b16 = wv (s.add y.w).n := by rw [hV]; simp [go_sem, q3, q2]
      have z16 : b16 < V2.heap.size := by rw [hV]; simp [setRow_size]; omega
      have GV2 := Lib.hid gV2
      clear hV gV2 q1 q2 q3 zb hCf GV1
      apply wpFlowC_quiets [12] HCG.out ⟨_, HC0.out⟩ (by decide +kernel) (by decide +kernel) (by kernel_rfl) (by intro _ _ _ d _ h; cases d <;> exact h) _
      · intro A hA Y hY
        simp only [pickOps_cons, pickOps_nil, pick1_zero, pick1_succ]
        repeat (go_big_quiet_step ((fail)))
        exact wpQuiet_nil hA.out.symm
      refine wpFlowC_end (by decide +kernel) (by kernel_rfl) ?_
      intro δf hCf
      refine exit_abs ?_
      intro U hU
      have gU : Grew V2 U := by rw [hU]; exact (by repeat (first | with_reducible exact Grew.refl _ | with_reducible apply Grew.alloc | with_reducible apply Grew.grow | with_reducible apply Grew.drew | with_reducible apply Grew.drewN))
      have gw : Grew wr U := GV2.out.trans gU
      replace r16 := (Grew.rowAt gU _ z16).trans r16
      replace z16 := Nat.lt_of_lt_of_le z16 gU.size
      have pb2 := (Grew.rowAt gw _ lb).trans pb
      have fb2 := (Grew.rowFree gw _ lb).trans fb
      have lb2 := Nat.lt_of_lt_of_le lb gw.size
      have GW := Lib.hid (HG.out.trans gw)
      clear hU gU gw hCf HCG HC0 GV2 pb fb lb HR
      go_wp2
      refine ⟨⟨k + 1, s.add y.w, by have := HK.out; omega, by go_num, by rw [HST.out, ← HS2.out], ?_, ?_, ?_, ?_⟩, by have := HK.out; simp only [intOf]; omega⟩
      · rw [rowAt_setRow_free _ _ _ fb2]
      · rw [rowFree_setRow_free _ _ _ fb2]
      · rw [setRow_size]; exact lb2
      · exact Grew.setRow_new GW.out _ _ HBB.out
    · obtain rfl : k = N := by omega
      have hge : ¬ ((k : Int) < (k : Int)) := by omega
      have hall : ls.take k = ls := List.take_of_length_le (by rw [HLS.out]; exact Nat.le_refl _)
      have e8 : wr.rowAt b8 = wv A.n := by rw [pb, HS2.out, hall, HA.out]
      have l8 := lb
      have P7 := O7.out.grew HG.out
      have P8 := Lib.hid (O8.out.grew HG.out)
      have HP7 := Lib.hid P7
      have GW := Lib.hid (GX.out.trans HG.out)
      clear pb fb lb HS2 HG hk hn HBB GX hall P7 O7 O8
      rename World => Q
      go_wp2
      go_loopw [13, 12] (fun n m W => ∃ t : Nat, t ≤ M ∧ n = .int .i64 t ∧ m = .int .i64 ((psum fs t : Nat) : Int) ∧ Grew Q W) (fun n _ _ => M - (intOf n).toNat)
      case atStart => exact ⟨0, by omega, rfl, rfl, Grew.refl _⟩
      case round =>
        obtain ⟨t, ht, rfl, rfl, hg⟩ := hrel
        have HG := Lib.hid hg
        clear hg
        by_cases hn : t < M
        · have hlt : (t : Int) < (M : Int) := by omega
          obtain ⟨y, hy⟩ : ∃ y, ps[t]? = some y := ⟨_, List.getElem?_eq_getElem (by rw [HM.out]; exact hn)⟩
          obtain ⟨e, he, hye⟩ := map_at HF1.out hy
          have hps1 := psum_succ fs t e he
          have hpl := sum_take_le fs (t + 1)
          rw [show (fs.map (2 ^ ·)).sum = k by have := HF3.out; unfold psum at this; rwa [List.take_length] at this] at hpl
          have hvv : ShowsT Q (.slice p7 ps.length k7) ps := by rw [HM.out]; exact HP7.out
          obtain ⟨b, o, rfl, -, hcc, hb, hat⟩ := showsT_some hvv (by rw [HM.out]; omega)
          have cn := range_n (rangeAt_grew (hat t y hy) HG.out)
          rw [hye] at cn
          have hbw : b < wr.heap.size := Nat.lt_of_lt_of_le hb HG.out.size
          have hM64 : M ≤ 64 := by have := HPSL.out; have := HM.out; omega
          obtain ⟨m, hm⟩ : ∃ m, 2 ^ e = m := ⟨_, rfl⟩
          have hmp : 1 ≤ m := by rw [← hm]; exact Nat.one_le_two_pow
          rw [hm] at cn hps1
          have hm64 : m ≤ 64 := by omega
          have g1 : decide ((m : Int) < 1) = false := decide_eq_false (by omega)
          have g2 : decide (m < 1) = false := decide_eq_false (by omega)
          have tI : (t : Int) ≤ 64 := by omega
          have HT := Lib.hid hn
          obtain ⟨z, hz⟩ : ∃ z, psum fs t = z := ⟨_, rfl⟩
          rw [hz] at hps1 ⊢
          have zI : (z : Int) + (m : Int) ≤ 64 := by omega
          have HZ := Lib.hid hz
          have HPS := Lib.hid hps1
          have HME := Lib.hid hm
          have key : t = 0 ∨ ∃ t' m', t = t' + 1 ∧ m < m' ∧ wr.cell? ⟨b, o + t' * 37 + 36, none⟩ = some (.int .i64 ((m' : Nat) : Int)) := by
            rcases Nat.eq_zero_or_pos t with h0 | h0
            · exact .inl h0
            · obtain ⟨t', rfl⟩ : ∃ t', t = t' + 1 := ⟨t - 1, by omega⟩
              obtain ⟨y', hy'⟩ : ∃ y', ps[t']? = some y' := ⟨_, List.getElem?_eq_getElem (by rw [HM.out]; omega)⟩
              obtain ⟨e', he', hye'⟩ := map_at HF1.out hy'
              have hlt := falls fs HF2.out t' e' e he' he
              refine .inr ⟨t', 2 ^ e', rfl, by rw [← hm]; exact Nat.pow_lt_pow_right (by omega) hlt, ?_⟩
              have := range_n (rangeAt_grew (hat t' y' hy') HG.out)
              rwa [hye'] at this
          have HKEY := Lib.hid key
          clear hy hps1 hpl hvv hcc hb hat hm hz hye he hn key hmp
          rcases HKEY.out with h0 | ⟨t', m', ht', hmm, cn'⟩
          · have d1 : decide ((0 : Int) < (t : Int)) = false := decide_eq_false (by omega)
            have d2 : decide (0 < t) = false := decide_eq_false (by omega)
            clear h0 HKEY
            go_wp2
            first | refine wp_region_pure_lit_g (by kernel_rfl) (by kernel_rfl) ?_ | refine wp_region_pure_lit (by kernel_rfl) (by kernel_rfl) ?_
            repeat (go_big_quiet_step ((fail)))
            refine wpQuiet_nil ?_
            intro _ hw'
            obtain ⟨δ1, hw''⟩ := hw'
            subst hw''
            go_wp2
            refine code_abs ?_
            intro V hV
            have gV : Grew wr V := by rw [hV]; exact (by repeat (first | with_reducible exact Grew.refl _ | with_reducible apply Grew.alloc | with_reducible apply Grew.grow | with_reducible apply Grew.drew | with_reducible apply Grew.drewN))
            have cnV := gV.cell cn
            have hbV := Nat.lt_of_lt_of_le hbw gV.size
            have GV := Lib.hid (HG.out.trans gV)
            clear hV gV cn hbw d1 d2 g1 g2
            go_loopw [14] (fun v W => ∃ a : Nat, v = .int .i64 ((2 ^ a : Nat) : Int) ∧ 2 ^ a ≤ m ∧ Grew V W) (fun v _ => (intOf v).toNat)
            case atStart => exact ⟨e, by rw [HME.out], by rw [HME.out]; exact Nat.le_refl _, Grew.refl _⟩
            case round =>
              obtain ⟨a, rfl, ha, hgi⟩ := hrel
              have cnW := hgi.cell cnV
              have hbW := Nat.lt_of_lt_of_le hbV hgi.size
              have GI := Lib.hid hgi
              clear hgi
              cases a with
              | zero =>
                have n1 : ¬ ((1 : Int) < ((2 ^ 0 : Nat) : Int)) := by decide
                rw [Nat.pow_zero] at *
                clear ha
                go_wp2
                exact ⟨⟨t + 1, by have := HT.out; omega, by go_num, by rw [HPS.out]; go_num, GV.out.trans GI.out⟩, by have := HT.out; simp only [intOf]; omega⟩
              | succ a =>
                obtain ⟨u, hu⟩ : ∃ u, 2 ^ (a + 1) = u := ⟨_, rfl⟩
                obtain ⟨r, hr⟩ : ∃ r, 2 ^ a = r := ⟨_, rfl⟩
                have hur : u = 2 * r := by rw [← hu, ← hr, Nat.pow_succ]; omega
                have hrp : 1 ≤ r := by rw [← hr]; exact Nat.one_le_two_pow
                rw [hu] at ha ⊢
                have u1 : (1 : Int) < (u : Int) := by omega
                have u2 : (u : Int) % 2 = 0 := by omega
                have u3 : (u : Int) / 2 = (r : Int) := by omega
                have u4 : (u : Int) ≤ 64 := by omega
                have HU := Lib.hid (And.intro hur (And.intro hr (And.intro hrp ha)))
                clear hu hr hur hrp ha
                go_wp2
                obtain ⟨hur, hr, hrp, ha⟩ := HU.out
                exact ⟨⟨a, by rw [hr], by rw [hr]; omega, GI.out⟩, by simp only [intOf]; omega⟩
          · have d1 : decide ((0 : Int) < (t : Int)) = true := decide_eq_true (by omega)
            have d2 : decide (0 < t) = true := decide_eq_true (by omega)
            have e1 : (t : Int) - 1 = (t' : Int) := by omega
            have i1 : (t' : Int) < (M : Int) := by omega
            have t1 : (t' : Int) ≤ 64 := by omega
            have d3 : decide ((m' : Int) ≤ (m : Int)) = false := decide_eq_false (by omega)
            have d4 : decide (m' ≤ m) = false := decide_eq_false (by omega)
            clear ht' hmm HKEY
            go_wp2
            first | refine wp_region_pure_lit_g (by kernel_rfl) (by kernel_rfl) ?_ | refine wp_region_pure_lit (by kernel_rfl) (by kernel_rfl) ?_
            repeat (go_big_quiet_step ((fail)))
            refine wpQuiet_nil ?_
            intro _ hw'
            obtain ⟨δ1, hw''⟩ := hw'
            subst hw''
            go_wp2
            refine code_abs ?_
            intro V hV
            have gV : Grew wr V := by rw [hV]; exact (by repeat (first | with_reducible exact Grew.refl _ | with_reducible apply Grew.alloc | with_reducible apply Grew.grow | with_reducible apply Grew.drew | with_reducible apply Grew.drewN))
            have cnV := gV.cell cn
            have hbV := Nat.lt_of_lt_of_le hbw gV.size
            have GV := Lib.hid (HG.out.trans gV)
            clear hV gV cn hbw d1 d2 g1 g2
            go_loopw [14] (fun v W => ∃ a : Nat, v = .int .i64 ((2 ^ a : Nat) : Int) ∧ 2 ^ a ≤ m ∧ Grew V W) (fun v _ => (intOf v).toNat)
            case atStart => exact ⟨e, by rw [HME.out], by rw [HME.out]; exact Nat.le_refl _, Grew.refl _⟩
            case round =>
              obtain ⟨a, rfl, ha, hgi⟩ := hrel
              have cnW := hgi.cell cnV
              have hbW := Nat.lt_of_lt_of_le hbV hgi.size
              have GI := Lib.hid hgi
              clear hgi
              cases a with
              | zero =>
                have n1 : ¬ ((1 : Int) < ((2 ^ 0 : Nat) : Int)) := by decide
                rw [Nat.pow_zero] at *
                clear ha
                go_wp2
                exact ⟨⟨t + 1, by have := HT.out; omega, by go_num, by rw [HPS.out]; go_num, GV.out.trans GI.out⟩, by have := HT.out; simp only [intOf]; omega⟩
              | succ a =>
                obtain ⟨u, hu⟩ : ∃ u, 2 ^ (a + 1) = u := ⟨_, rfl⟩
                obtain ⟨r, hr⟩ : ∃ r, 2 ^ a = r := ⟨_, rfl⟩
                have hur : u = 2 * r := by rw [← hu, ← hr, Nat.pow_succ]; omega
                have hrp : 1 ≤ r := by rw [← hr]; exact Nat.one_le_two_pow
                rw [hu] at ha ⊢
                have u1 : (1 : Int) < (u : Int) := by omega
                have u2 : (u : Int) % 2 = 0 := by omega
                have u3 : (u : Int) / 2 = (r : Int) := by omega
                have u4 : (u : Int) ≤ 64 := by omega
                have HU := Lib.hid (And.intro hur (And.intro hr (And.intro hrp ha)))
                clear hu hr hur hrp ha
                go_wp2
                obtain ⟨hur, hr, hrp, ha⟩ := HU.out
                exact ⟨⟨a, by rw [hr], by rw [hr]; omega, GI.out⟩, by simp only [intOf]; omega⟩
        · obtain rfl : t = M := by omega
          have hge2 : ¬ ((t : Int) < (t : Int)) := by omega
          have hz : psum fs t = k := by have := HF3.out; rw [← HFL.out, HM.out] at this; exact this
          rw [hz]
          have r8 := (Grew.rowAt HG.out _ l8).trans e8
          have y8 := Nat.lt_of_lt_of_le l8 HG.out.size
          have GF := Lib.hid (GW.out.trans HG.out)
          have S7 := Lib.hid (HP7.out.grew HG.out)
          have S8 := Lib.hid (P8.out.grew HG.out)
          clear ht hn hz
          go_wp2_with (go_at_call 18; refine stop_of ?_)
          unfold Stop
          refine (CR.out _ _ S7.out).mono ?_
          rintro e Z ⟨rfl, hg⟩
          replace r8 := (Grew.rowAt hg _ y8).trans r8
          replace y8 := Nat.lt_of_lt_of_le y8 hg.size
          replace GF := Lib.hid (GF.out.trans hg)
          replace S8 := Lib.hid (S8.out.grew hg)
          clear hg CR S7
          go_wp2
          refine code_abs ?_
          intro Y hY
          have gY : Grew Z Y := by rw [hY]; exact (by repeat (first | with_reducible exact Grew.refl _ | with_reducible apply Grew.alloc | with_reducible apply Grew.grow | with_reducible apply Grew.drew | with_reducible apply Grew.drewN))
          have r15 : Y.rowAt Z.heap.size = ta T.h.l T.w.n T.n := by rw [hY]; simp [go_sem]
          have y15 : Z.heap.size < Y.heap.size := by rw [hY]; simp
          replace r8 := (Grew.rowAt gY _ y8).trans r8
          replace y8 := Nat.lt_of_lt_of_le y8 gY.size
          have c15 : Y.cell? ⟨Z.heap.size, 36, none⟩ = some (.int .i64 (k : Nat)) := by rw [cell_rowAt, r15, ta_n _ _ _ hTl, HTN.out]
          replace GF := Lib.hid (GF.out.trans gY)
          replace S8 := Lib.hid (S8.out.grew gY)
          clear hY gY
          first | refine wp_region_pure_lit_g (by kernel_rfl) (by kernel_rfl) ?_ | refine wp_region_pure_lit (by kernel_rfl) (by kernel_rfl) ?_
          repeat (go_big_quiet_step ((go_at_call 28; exact Calls.pure_of (CAl.out _ _ (S8.out.grew (by repeat (first | with_reducible exact Grew.refl _ | with_reducible apply Grew.alloc | with_reducible apply Grew.grow | with_reducible apply Grew.drew | with_reducible apply Grew.drewN)))))))
          refine wpQuiet_nil ?_
          intro _ hw'
          obtain ⟨δ1, hw''⟩ := hw'
          subst hw''
          go_wp2
          go_ret
          exact ⟨rfl, GF.out.trans (by repeat (first | with_reducible exact Grew.refl _ | with_reducible apply Grew.alloc | with_reducible apply Grew.grow | with_reducible apply Grew.drew | with_reducible apply Grew.drewN))⟩
end Go.Proofs.Ytnhcamklammcdaa
namespace Go.Proofs.Ytnhcamklammcdaa.mmrWhole
set_option linter.unusedVariables false
set_option linter.unusedSimpArgs false
open Go.ChangeShapes Go.WideShapes Go.ChangeAt Go.RowKit

set_option maxRecDepth 100000 in
theorem lifted (os : Os) (started : os.Started) (H : Type) (enc : TypeId × Value → H) :
    ReturnsInHanded {} Try.checked os 5 .any (Rows.mmrWholeSpec.pre6 enc Try.prog Try.f5 Rows.mmrWholeRow.domain false) (Rows.mmrWholeSpec.post enc Try.prog Try.f5 false true false false) := by
  refine returnsInHanded_of_change (C := Try.checked) own started (by kernel_rfl) Try.func5
    (ChangeSpec.witness6 (enc := enc) (C := Try.checked) false ⟨#[], #[.slice none 0 0, .slice none 0 0], []⟩ 8 (by kernel_rfl) (by kernel_rfl) (by kernel_rfl) (by kernel_rfl)) ?_
  intro W base args ds gs before hval0 hW _ _
  have hval : ∀ (j : Nat) t v, Try.f5.params[j]? = some t → args[j]? = some v → Value.okWide Try.prog W .any base t v := hval0
  have hW' := hW
  obtain ⟨p, q, hA0, hV, rfl, hfz, hnd⟩ := hW
  have hA : DataW.TrodAll enc Try.prog W 0 (fun _ => true) true Try.f5.params.toList args.toList ds p := hA0
  have hAk := hA
  rw [Try.params5] at hA hval
  obtain ⟨v0, vs0, d0, ds0, p0, q0, hargs0, rfl, rfl, h0, r0⟩ := trodAll_cons hA
  obtain ⟨v1, vs1, d1, ds1, p1, q1, hargs1, rfl, rfl, h1, r1⟩ := trodAll_cons r0
  obtain ⟨rfl, rfl, rfl⟩ := trodAll_nil r1
  subst hargs1
  obtain rfl : args = #[v0, v1] := by cases args; simp_all
  obtain ⟨rfl, rfl⟩ := trodVars_none hV
  obtain ⟨q0', n0', c0', rfl⟩ := okWide_slice Try.underlying43 (hval 0 43 v0 rfl rfl)
  obtain ⟨aq0, ac0, al0, ae0, am0, as0⟩ := open_ids h0 rfl
  rw [ae0]
  obtain ⟨q1', n1', c1', rfl⟩ := okWide_slice Try.underlying44 (hval 1 44 v1 rfl rfl)
  obtain ⟨aq1, ac1, al1, ae1, ab1, am1, as1⟩ := open_u32s h1 rfl
  rw [ae1]
  simp only [List.append_nil] at hW'
  refine (mmrWhole_walk aq0 ac0 al0 am0 aq1 ac1 al1 ab1 am1 W as0 as1).mono fun e W' ⟨he, hg⟩ => ?_
  subst he
  rw [← ae0]
  rw [← ae1]
  exact ⟨_, rfl, post_of_stays hW' rfl (by simpa using hAk) (types_ok _ (by rw [Try.params5]; kernel_rfl)) rfl rfl (fun _ _ _ => (trodAll_cons_mk (shut_bool Try.underlying4 _) trodAll_mk0))
    hg (ok_one (by kernel_rfl) rfl (okWide_bool_mk Try.underlying4 _))⟩

theorem proved : Rows.MmrWholeSaid :=
  OpenClaim.holds_of_wide 5 Try.f5 rfl rfl rfl rfl rfl rfl rfl ⟨rfl, rfl, rfl, rfl, rfl⟩ rfl rfl rfl rfl rfl (by kernel_rfl) Try.func5 (by kernel_rfl)
    (of_decide_eq_true (by kernel_rfl)) (by unfold Func.isWrapper; first | (rw [if_pos (by decide +kernel)]; kernel_rfl) | (rw [if_neg (by decide +kernel)]; exact ⟨rfl, rfl⟩))
    (fun os started H enc _ => lifted os started H enc)
end Go.Proofs.Ytnhcamklammcdaa.mmrWhole
