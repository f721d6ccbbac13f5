/- The document's numbers, words. -/
import Derived.Test.YtmnnmndnpkanlaaRefSha1
import Derived.Test.YtmnnmndnpkanlaaOwn2
import Derived.Test.YtmnnmndnpkanlaaFlowX
namespace Go.Proofs.Ytmnnmndnpkanlaa
set_option linter.unusedVariables false
set_option linter.unusedSimpArgs false
open Go.RowKit
/-- A row of the call's own, opened. -/
theorem own_form {w : World} {base : Nat} {e : TypeId} {v : Value} {xs : List Value} (h : OwnR w base e v xs) (hne : 0 < xs.length) :
    ∃ g cap, v = .slice (some ⟨g, 0, none⟩) xs.length cap ∧ base ≤ g ∧ g < w.heap.size ∧ xs.length ≤ cap ∧ cap ≤ maxLen ∧ ∀ j, j < xs.length → w.cell? ⟨g, j, none⟩ = xs[j]? := by
  have h' := h
  rcases h.2 with ⟨rfl, h0⟩ | ⟨g, cap, cur, rfl, hb, hg, hn, hm, _, _⟩
  · omega
  · exact ⟨g, cap, rfl, hb, (Array.getElem?_eq_some_iff.1 hg).1, hn, hm, fun j hj => by rw [own_cell h' j hj, List.getElem?_eq_getElem hj]⟩
theorem wsl_get (l : List (BitVec 32)) (i : Nat) (h : i < l.length) : (wsl l)[i]? = some (.int .u32 (u (wordAt l i))) := by rw [wordAt_eq l i h]; simp [wsl, h]
theorem own_alloc (w : World) (base : Nat) (e : TypeId) (xs : List Value) (hb : base ≤ w.heap.size) (hl : xs.length ≤ maxLen) : OwnR (w.alloc (.cells xs.toArray e)) base e (.slice (some ⟨w.heap.size, 0, none⟩) xs.length xs.length) xs :=
  ⟨by simp, .inr ⟨_, _, xs.toArray, rfl, hb, heap_alloc_new w _, Nat.le_refl _, hl, by simp, by simp⟩⟩
theorem be32_sum (a b c d : Nat) (ha : a < 256) (hb : b < 256) (hc : c < 256) (hd : d < 256) : (16777216 : Int) * a + 65536 * b + 256 * c + d = u (be32 a b c d) := by
  unfold u be32
  rw [BitVec.toNat_ofNat]
  omega
set_option maxRecDepth 100000 in
set_option maxHeartbeats 3200000 in
theorem rwords_w (l : List Nat) (hl : ∀ c ∈ l, c < 256) (bB o c : Nat) (w : World) (hb : ∀ j, j < 64 → w.cell? ⟨bB, o + j, none⟩ = some (.int .u8 (byteAt l j : Nat))) :
    Calls Try.prog 22 #[.slice (some ⟨bB, o, none⟩) 64 c] w fun e w' => ∃ v, e = .returned v ∧ OwnR w' w.heap.size 39 v (wsl (sched l 64)) ∧ Grew w w' := by
  obtain ⟨iw, hi, hz, hsz, hby⟩ := info_w
  have l2 : bB < w.heap.size := World.block_lt_of_cell? w _ (hb 0 (by omega))
  have HB := Lib.hid hb
  have HL := Lib.hid (fun i => byteAt_lt l hl i)
  clear hb hl
  go_enter Try.func22, Try.ntmps22
  go_wp2
  go_loopw [4, 3] (fun n v wr => ∃ k : Nat, k ≤ 16 ∧ n = .int .i64 k ∧ OwnR wr w.heap.size 39 v (wsl (sched l k)) ∧ Grew w wr) (fun n _ _ => 16 - (intOf n).toNat)
  case atStart => exact ⟨0, by omega, rfl, OwnR.nil _ _ _, Grew.refl _⟩
  case round =>
    obtain ⟨k, hk, rfl, ho, hg⟩ := hrel
    have HO := Lib.hid ho
    have HG := Lib.hid hg
    have hsz0 := hg.size
    clear ho hg
    by_cases hn : k < 16
    · have hlt : (k : Int) < 16 := by omega
      have c0 := HG.out.cell (HB.out (4 * k) (by omega))
      have c1 := HG.out.cell (HB.out (4 * k + 1) (by omega))
      have c2 := HG.out.cell (HB.out (4 * k + 2) (by omega))
      have c3 := HG.out.cell (HB.out (4 * k + 3) (by omega))
      have a0 := HL.out (4 * k)
      have a1 := HL.out (4 * k + 1)
      have a2 := HL.out (4 * k + 2)
      have a3 := HL.out (4 * k + 3)
      have o4 := be32_sum _ _ _ _ a0 a1 a2 a3
      have hlw : bB < wr.heap.size := by omega
      have hsl : (wsl (sched l k)).length = k := by rw [wsl_len, sched_len]
      have hnext : wsl (sched l (k + 1)) = wsl (sched l k) ++ [.int .u32 (u (be32 (byteAt l (4 * k)) (byteAt l (4 * k + 1)) (byteAt l (4 * k + 2)) (byteAt l (4 * k + 3))))] := by
        rw [sched, if_pos hn, wsl_append]; rfl
      obtain ⟨y0, hy0⟩ : ∃ y, byteAt l (4 * k) = y := ⟨_, rfl⟩
      obtain ⟨y1, hy1⟩ : ∃ y, byteAt l (4 * k + 1) = y := ⟨_, rfl⟩
      obtain ⟨y2, hy2⟩ : ∃ y, byteAt l (4 * k + 2) = y := ⟨_, rfl⟩
      obtain ⟨y3, hy3⟩ : ∃ y, byteAt l (4 * k + 3) = y := ⟨_, rfl⟩
      rw [hy0] at c0 a0
      rw [hy1] at c1 a1
      rw [hy2] at c2 a2
      rw [hy3] at c3 a3
      rw [hy0, hy1, hy2, hy3] at o4 hnext
      obtain ⟨z, hzz⟩ : ∃ z, be32 y0 y1 y2 y3 = z := ⟨_, rfl⟩
      rw [hzz] at o4 hnext
      have HN := Lib.hid hnext
      clear hy0 hy1 hy2 hy3 hzz hnext hk hn
      go_wp2
      refine wp_region_flowX [35,36] (by kernel_rfl) ?_
      intro δf
      apply wpFlowX_quiets [0,1,2,3,4,5,6,7,8,9,10,11,12,13,14,15,16,17,18,19,20,21,22,23,24,25,26,27,28,29,30,31,32,33] (by decide +kernel) (by decide +kernel) (by kernel_rfl) (by intro _ _ _ d _ h; cases d <;> exact h) _
      · intro A hA δ'
        simp only [pickOps_cons, pickOps_nil, pick1_zero, pick1_succ]
        repeat (go_big_quiet_step ((fail)))
        exact wpQuiet_nil hA.out.symm
      refine wpFlowX_one 34 (by decide +kernel) (by kernel_rfl) (by decide +kernel) (by decide +kernel) ?_
      simp only [pickOps_cons, pickOps_nil, pick1_zero, pick1_succ]
      intro δf
      go_wp2_with (fail)
      refine ⟨(by first | assumption | (simp only [grow_grow, Array.append_assoc]; assumption) | exact Grew.refl _ | (simp only [grow_grow, Array.append_assoc]; exact (by repeat (first | with_reducible exact Grew.refl _ | with_reducible apply Grew.alloc | with_reducible apply Grew.grow | with_reducible apply Grew.drew | with_reducible apply Grew.drewN))) | exact (by repeat (first | with_reducible exact Grew.refl _ | with_reducible apply Grew.alloc | with_reducible apply Grew.grow | with_reducible apply Grew.drew | with_reducible apply Grew.drewN))), ?_⟩
      refine wpFlowX_esc 35 (by decide +kernel) (by kernel_rfl) (by decide +kernel) (by decide +kernel) ?_
      simp only [pickOps_cons, pickOps_nil, pick1_zero, pick1_succ]
      intro δf
      refine wpList_appends rfl _ _ _ rfl _ iw _ 4 under_ws hi hz hsz hby rfl w _ _ _ rfl rfl _ [.int .u32 (u z)] (HG.out.trans (by repeat (first | with_reducible exact Grew.refl _ | with_reducible apply Grew.alloc | with_reducible apply Grew.grow | with_reducible apply Grew.drew | with_reducible apply Grew.drewN))) (HO.out.grew (by repeat (first | with_reducible exact Grew.refl _ | with_reducible apply Grew.alloc | with_reducible apply Grew.grow | with_reducible apply Grew.drew | with_reducible apply Grew.drewN))) (by first | exact (shows_one_g _ _ _ _ _).grew (by repeat (first | with_reducible exact Grew.refl _ | with_reducible apply Grew.alloc | with_reducible apply Grew.grow | with_reducible apply Grew.drew | with_reducible apply Grew.drewN)) | exact (shows_one_g2 _ _ _ _ _ _).grew (by repeat (first | with_reducible exact Grew.refl _ | with_reducible apply Grew.alloc | with_reducible apply Grew.grow | with_reducible apply Grew.drew | with_reducible apply Grew.drewN))) (by simp [Value.oneCell']) (by rw [hsl]; simp only [maxLen, List.length_cons, List.length_nil]; omega) (by rw [hsl]; simp only [List.length_cons, List.length_nil]; omega) ?_
      intro v' w2' ho' hg'
      rw [← HN.out] at ho'
      refine wpList_nil_then ?_
      refine wpAny_one 36 (by decide +kernel) (by kernel_rfl) (by decide +kernel) ?_
      simp only [pickOps_cons, pickOps_nil, pick1_zero, pick1_succ]
      go_wp2_with (fail)
      refine wpAny_end (by decide +kernel) (by kernel_rfl) ?_
      go_wp2
      exact ⟨⟨k + 1, by omega, by go_num, ho', hg'⟩, by simp only [intOf]; omega⟩
    · obtain rfl : k = 16 := by omega
      clear hk hn
      go_wp2
      go_loopw [5, 3] (fun n v wr2 => ∃ k : Nat, 16 ≤ k ∧ k ≤ 64 ∧ n = .int .i64 k ∧ OwnR wr2 w.heap.size 39 v (wsl (sched l k)) ∧ Grew w wr2) (fun n _ _ => 64 - (intOf n).toNat)
      case atStart => exact ⟨16, by omega, by omega, rfl, HO.out, HG.out⟩
      case round =>
        clear HO HG
        obtain ⟨k, hk0, hk, rfl, ho, hg⟩ := hrel
        have HO := Lib.hid ho
        have HG := Lib.hid hg
        have hsz1 := hg.size
        clear hsz0
        clear ho hg
        by_cases hn : k < 64
        · have hlt : (k : Int) < 64 := by omega
          have hsl : (wsl (sched l k)).length = k := by rw [wsl_len, sched_len]
          obtain ⟨g, cap, hv, hgb, hgs, hgc, hgm, hcell⟩ := own_form HO.out (by omega)
          rw [hsl] at hv hgc hcell
          subst hv
          have d1 := hcell (k - 15) (by omega)
          have d2 := hcell (k - 2) (by omega)
          have d3 := hcell (k - 16) (by omega)
          have d4 := hcell (k - 7) (by omega)
          rw [wsl_get _ _ (by rw [sched_len]; omega)] at d1 d2 d3 d4
          have hnext : wsl (sched l (k + 1)) = wsl (sched l k) ++ [.int .u32 (u (schedN (sched l k) k))] := by
            rw [sched, if_neg (by omega), wsl_append]; rfl
          unfold schedN at hnext
          obtain ⟨x1, hx1⟩ : ∃ y, wordAt (sched l k) (k - 15) = y := ⟨_, rfl⟩
          obtain ⟨x2, hx2⟩ : ∃ y, wordAt (sched l k) (k - 2) = y := ⟨_, rfl⟩
          obtain ⟨x3, hx3⟩ : ∃ y, wordAt (sched l k) (k - 16) = y := ⟨_, rfl⟩
          obtain ⟨x4, hx4⟩ : ∃ y, wordAt (sched l k) (k - 7) = y := ⟨_, rfl⟩
          rw [hx1] at d1
          rw [hx2] at d2
          rw [hx3] at d3
          rw [hx4] at d4
          rw [hx1, hx2, hx3, hx4] at hnext
          have hsum : x3 + x4 + (rr 7 x1 ^^^ rr 18 x1 ^^^ x1 >>> 3) + (rr 17 x2 ^^^ rr 19 x2 ^^^ x2 >>> 10) = x3 + (rr 7 x1 ^^^ rr 18 x1 ^^^ x1 >>> 3) + x4 + (rr 17 x2 ^^^ rr 19 x2 ^^^ x2 >>> 10) := by
            rw [BitVec.add_assoc x3 x4, BitVec.add_comm x4, ← BitVec.add_assoc]
          rw [hsum] at hnext
          have HN := Lib.hid hnext
          have i1 : (k : Int) - 15 = ((k - 15 : Nat) : Int) := by omega
          have i2 : (k : Int) - 2 = ((k - 2 : Nat) : Int) := by omega
          have i3 : (k : Int) - 16 = ((k - 16 : Nat) : Int) := by omega
          have i4 : (k : Int) - 7 = ((k - 7 : Nat) : Int) := by omega
          have j1 : ((k - 15 : Nat) : Int) < (k : Int) := by omega
          have j2 : ((k - 2 : Nat) : Int) < (k : Int) := by omega
          have j3 : ((k - 16 : Nat) : Int) < (k : Int) := by omega
          have j4 : ((k - 7 : Nat) : Int) < (k : Int) := by omega
          obtain ⟨n1, hn1⟩ : ∃ n, k - 15 = n := ⟨_, rfl⟩
          obtain ⟨n2, hn2⟩ : ∃ n, k - 2 = n := ⟨_, rfl⟩
          obtain ⟨n3, hn3⟩ : ∃ n, k - 16 = n := ⟨_, rfl⟩
          obtain ⟨n4, hn4⟩ : ∃ n, k - 7 = n := ⟨_, rfl⟩
          rw [hn1] at d1 i1 j1
          rw [hn2] at d2 i2 j2
          rw [hn3] at d3 i3 j3
          rw [hn4] at d4 i4 j4
          have hkI : (k : Int) ≤ 64 := by omega
          have hkl : k < 64 := hn
          have bx1 := (u_bd x1).1
          have bx2 := (u_bd x2).1
          have by1 : u x1 ≤ 4294967295 := by have := (u_bd x1).2; omega
          have by2 : u x2 ≤ 4294967295 := by have := (u_bd x2).2; omega
          clear hn1 hn2 hn3 hn4 hx1 hx2 hx3 hx4 hsum hnext hcell hk hk0 hn
          go_wp2
          first | refine wp_region_pure_lit_g (by kernel_rfl) (by kernel_rfl) ?_ | refine wp_region_pure_lit (by kernel_rfl) (by kernel_rfl) ?_
          repeat (go_big_quiet_step ((go_at_call 29; exact Calls.pure_of (rturn_i _ _ (by decide) _))))
          refine wpQuiet_nil ?_
          intro _ hw'
          obtain ⟨δ1, hw''⟩ := hw'
          subst hw''
          go_wp2
          first | refine wp_region_pure_lit_g (by kernel_rfl) (by kernel_rfl) ?_ | refine wp_region_pure_lit (by kernel_rfl) (by kernel_rfl) ?_
          repeat (go_big_quiet_step ((go_at_call 29; exact Calls.pure_of (rturn_i _ _ (by decide) _))))
          refine wpQuiet_nil ?_
          intro _ hw'
          obtain ⟨δ1, hw''⟩ := hw'
          subst hw''
          go_wp2
          refine wp_region_flowX [17,18] (by kernel_rfl) ?_
          intro δf
          apply wpFlowX_quiets [0,1,2,3,4,5,6,7,8,9,10,11,12,13,14,15] (by decide +kernel) (by decide +kernel) (by kernel_rfl) (by intro _ _ _ d _ h; cases d <;> exact h) _
          · intro A hA δ'
            simp only [pickOps_cons, pickOps_nil, pick1_zero, pick1_succ]
            repeat (go_big_quiet_step ((fail)))
            exact wpQuiet_nil hA.out.symm
          refine wpFlowX_one 16 (by decide +kernel) (by kernel_rfl) (by decide +kernel) (by decide +kernel) ?_
          simp only [pickOps_cons, pickOps_nil, pick1_zero, pick1_succ]
          intro δf
          go_wp2_with (fail)
          refine ⟨(by first | assumption | (simp only [grow_grow, Array.append_assoc]; assumption) | exact Grew.refl _ | (simp only [grow_grow, Array.append_assoc]; exact (by repeat (first | with_reducible exact Grew.refl _ | with_reducible apply Grew.alloc | with_reducible apply Grew.grow | with_reducible apply Grew.drew | with_reducible apply Grew.drewN))) | exact (by repeat (first | with_reducible exact Grew.refl _ | with_reducible apply Grew.alloc | with_reducible apply Grew.grow | with_reducible apply Grew.drew | with_reducible apply Grew.drewN))), ?_⟩
          refine wpFlowX_esc 17 (by decide +kernel) (by kernel_rfl) (by decide +kernel) (by decide +kernel) ?_
          simp only [pickOps_cons, pickOps_nil, pick1_zero, pick1_succ]
          intro δf
          refine wpList_appends rfl _ _ _ rfl _ iw _ 4 under_ws hi hz hsz hby rfl w _ _ _ rfl rfl _ [.int .u32 (u (x3 + (rr 7 x1 ^^^ rr 18 x1 ^^^ x1 >>> 3) + x4 + (rr 17 x2 ^^^ rr 19 x2 ^^^ x2 >>> 10)))] (HG.out.trans (by repeat (first | with_reducible exact Grew.refl _ | with_reducible apply Grew.alloc | with_reducible apply Grew.grow | with_reducible apply Grew.drew | with_reducible apply Grew.drewN))) (HO.out.grew (by repeat (first | with_reducible exact Grew.refl _ | with_reducible apply Grew.alloc | with_reducible apply Grew.grow | with_reducible apply Grew.drew | with_reducible apply Grew.drewN))) ((shows_one_g _ _ _ _ _).grew (by repeat (first | with_reducible exact Grew.refl _ | with_reducible apply Grew.alloc | with_reducible apply Grew.grow | with_reducible apply Grew.drew | with_reducible apply Grew.drewN))) (by simp [Value.oneCell']) (by rw [hsl]; simp only [maxLen, List.length_cons, List.length_nil]; omega) (by rw [hsl]; simp only [List.length_cons, List.length_nil]; omega) ?_
          intro v' w2' ho' hg'
          rw [← HN.out] at ho'
          refine wpList_nil_then ?_
          refine wpAny_one 18 (by decide +kernel) (by kernel_rfl) (by decide +kernel) ?_
          simp only [pickOps_cons, pickOps_nil, pick1_zero, pick1_succ]
          go_wp2_with (fail)
          refine wpAny_end (by decide +kernel) (by kernel_rfl) ?_
          go_wp2
          refine ⟨?_, ?_⟩
          · iterate 66 apply Exists.intro
            refine And.intro ?_ rfl
            exact ⟨k + 1, by omega, by omega, by go_num, ho', hg'⟩
          · show 64 - (intOf (.int .i64 ((k : Int) + 1))).toNat < 64 - (intOf (.int .i64 (k : Int))).toNat
            simp only [intOf]; omega
        · obtain rfl : k = 64 := by omega
          go_wp2
          go_ret
          exact ⟨_, rfl, HO.out, HG.out⟩
end Go.Proofs.Ytmnnmndnpkanlaa
