/- sha's add: 64 bytes go into eight words. -/
import Derived.Test.YtmnnmndnpkanlaaRows
import Derived.Test.YtmnnmndnpkanlaaSha3a
import Derived.Laws.CopyOwn
namespace Go.Proofs.Ytmnnmndnpkanlaa
set_option linter.unusedVariables false
set_option linter.unusedSimpArgs false
open Go.RowKit

theorem Grew.setRow_new {a b : World} (h : Grew a b) (g : Nat) (cs : Array Value) (hg : a.heap.size ≤ g) : Grew a (b.setRow g cs) :=
  Grew.of_below (below_setRow h.below hg cs)
theorem Grew.setRow_old {a b : World} (h : Grew a b) (g : Nat) (cs : Array Value) (hg : g < a.heap.size) : Grew (a.setRow g cs) (b.setRow g cs) := by
  obtain ⟨δ, rfl⟩ := h
  rw [setRow_grow _ _ _ _ hg]
  exact ⟨δ, rfl⟩
theorem Grew.rowAt {a b : World} (h : Grew a b) (g : Nat) (hg : g < a.heap.size) : b.rowAt g = a.rowAt g := rowAt_of_heap (h.heap hg)
theorem Grew.rowFree {a b : World} (h : Grew a b) (g : Nat) (hg : g < a.heap.size) : b.rowFree g = a.rowFree g := rowFree_of_heap (h.heap hg)
theorem under_st : Try.prog.underlying 41 = some (.array 8 39) := by kernel_rfl
theorem info_u32 : (Try.prog.info? 39).map (·.size) = some 1 := by kernel_rfl
@[go_sem] theorem index_st (l : List (BitVec 32)) (i : Nat) (hl : l.length = 8) (h : i < 8) (w : World) : (Instr.index 41 (.agg (uv l)) (.int .i64 (i : Int))).run Try.prog w = .ok (.int .u32 (u (wordAt l i))) w := by
  have hs : (sizeOf 39).run Try.prog w = .ok 1 w := by
    have := info_u32
    cases hq : Try.prog.info? 39 with
    | none => rw [hq] at this; cases this
    | some i => simp [hq] at this; simp [sizeOf, typeInfo, hq, this]
  have hp : (part 39 (uv l) i).run Try.prog w = .ok (.int .u32 (u (wordAt l i))) w := by
    have ha : (isAgg 39).run Try.prog w = .ok false w := by
      unfold isAgg
      rw [Sem.run_bind, run_underlying Try.underlying39 w]
      rfl
    simp [part, Sem.run_bind, ha, uv_at l i (by omega)]
  have hi : (0 : Int) ≤ i ∧ (i : Int) < (8 : Nat) := by omega
  simp only [Instr.index, Sem.run_bind, asIntOf, Sem.run_pure, Result.andThen_ok, run_underlying under_st w, if_pos hi, hs, Int.toNat_natCast, Nat.mul_one, hp]
theorem three_rows (w : World) (δ : Junk) (a b c : Array Value) (ta tb tc : TypeId) : ∃ gw gk gv w1, (((w.alloc (.cells a ta)).grow δ).alloc (.cells b tb)).alloc (.cells c tc) = w1 ∧ w.heap.size + 1 + δ.n + 1 = gv ∧ w.heap.size + 1 + δ.n = gk ∧ w.heap.size = gw ∧
    w1.rowAt gv = c ∧ w1.rowFree gv = true ∧ (∀ i, w1.cell? ⟨gw, i, none⟩ = a[i]?) ∧ (∀ i, w1.cell? ⟨gk, i, none⟩ = b[i]?) ∧ (gw ≠ gv ∧ gk ≠ gv ∧ gw < w1.heap.size ∧ gk < w1.heap.size ∧ gv < w1.heap.size ∧ w.heap.size ≤ gv) ∧ Grew w w1 := by
  refine ⟨_, _, _, _, rfl, rfl, rfl, rfl, ?_, ?_, ?_, ?_, ?_, ?_⟩
  · simp [go_sem]
  · simp [go_sem]
  · intro i; rw [cell_rowAt]; simp [go_sem]
  · intro i; rw [cell_rowAt]; simp [go_sem]
  · refine ⟨?_, ?_, ?_, ?_, ?_, ?_⟩ <;> (try simp only [size_grow, World.size_alloc]) <;> omega
  · exact (by repeat (first | with_reducible exact Grew.refl _ | with_reducible apply Grew.alloc | with_reducible apply Grew.grow | with_reducible apply Grew.drew | with_reducible apply Grew.drewN))
set_option maxRecDepth 100000 in
set_option maxHeartbeats 16000000 in
theorem add_w (s : List (BitVec 32)) (l : List Nat) (hs : s.length = 8) (hl : ∀ c ∈ l, c < 256) (sB bB o c : Nat) (w : World) (h1 : w.rowAt sB = uv s) (h2 : w.rowFree sB = true) (hne : sB ≠ bB)
    (hb : ∀ j, j < 64 → w.cell? ⟨bB, o + j, none⟩ = some (.int .u8 (byteAt l j : Nat))) :
    Calls Try.prog 19 #[.pointer (some ⟨sB, 0, none⟩), .slice (some ⟨bB, o, none⟩) 64 c] w fun e w' => (∃ v, e = .returned v) ∧ Grew (w.setRow sB (uv (compress s l))) w' := by
  have l1 : sB < w.heap.size := row_lt w (n := 7) (by rw [h1, uv_size, hs])
  have l2 : bB < w.heap.size := World.block_lt_of_cell? w _ (hb 0 (by omega))
  obtain ⟨ps1, ps2, ps3, ps4, ps5, ps6, ps7, ps8, ps9, ps10, ps11, ps12, ps13, ps14⟩ := places_of w sB l1
  obtain ⟨pb1, pb2, pb3, pb4, pb5, pb6, pb7, pb8, pb9, pb10, pb11, pb12, pb13, pb14⟩ := places_of w bB l2
  have hb' := fun i => byteAt_lt l hl i
  have HB := Lib.hid hb
  have HL := Lib.hid hb'
  have H1 := Lib.hid h1
  have HN := Lib.hid hne
  clear hb hl hb' h1 hne
  go_enter Try.func19, Try.ntmps19
  go_wp2
  go_loopw [17] (fun n wr => ∃ (k : Nat) (δ : Junk), k ≤ 64 ∧ n = .int .i64 k ∧ wr = (w.alloc (.cells (uv (pad64 (sched l k))) 52)).grow δ) (fun n _ => 64 - (intOf n).toNat)
  case atStart => exact ⟨0, ⟨#[], w.drawn⟩, by omega, rfl, (grow_self _).symm⟩
  case round =>
    obtain ⟨k, δ, hk, rfl, rfl⟩ := hrel
    by_cases hn : k < 64
    · have hlen := sched_len l k
      have hpl := pad64_len (sched l k) (by omega)
      by_cases h16 : k < 16
      · have c0 := HB.out (4 * k) (by omega)
        have c1 := HB.out (4 * k + 1) (by omega)
        have c2 := HB.out (4 * k + 2) (by omega)
        have c3 := HB.out (4 * k + 3) (by omega)
        have a0 := HL.out (4 * k)
        have a1 := HL.out (4 * k + 1)
        have a2 := HL.out (4 * k + 2)
        have a3 := HL.out (4 * k + 3)
        have o2 := be_or2 _ _ a0 a1
        have o3 := be_or3 _ _ _ a0 a1 a2
        have o4 := be_or4 _ _ _ _ a0 a1 a2 a3
        have hs16 := sched_low l k h16
        go_wp2
        first | refine wp_region_pure_tail_g 35 (by kernel_rfl) (by kernel_rfl) (by intro _ _ _ d _ h; cases d <;> exact h) ?_ | refine wp_region_pure_tail 35 (by kernel_rfl) (by kernel_rfl) (by intro _ _ _ d _ h; cases d <;> exact h) ?_
        simp only [List.take_succ_cons, List.take_zero, List.drop_succ_cons, List.drop_zero]
        repeat (go_big_quiet_step ((fail)))
        refine wpQuiet_nil ?_
        intro _ hw'
        obtain ⟨δ1, hw''⟩ := hw'
        subst hw''
        go_wp2
        exact ⟨⟨k + 1, _, by omega, by go_num, rfl⟩, by simp only [intOf]; omega⟩
      · have hs16 := sched_high l k h16 hn
        have g1 : (16 : Int) ≤ (k : Int) := by omega
        have g2 : (15 : Int) ≤ (k : Int) := by omega
        have g3 : (2 : Int) ≤ (k : Int) := by omega
        have g4 : (7 : Int) ≤ (k : Int) := by omega
        have m1 : 16 ≤ k := by omega
        have m2 : 15 ≤ k := by omega
        have m3 : 2 ≤ k := by omega
        have m4 : 7 ≤ k := by omega
        have d1 := uv_at (pad64 (sched l k)) (k - 15) (by omega)
        have d2 := uv_at (pad64 (sched l k)) (k - 2) (by omega)
        have d3 := uv_at (pad64 (sched l k)) (k - 16) (by omega)
        have d4 := uv_at (pad64 (sched l k)) (k - 7) (by omega)
        go_wp2
        first | refine wp_region_pure_lit_g (by kernel_rfl) (by kernel_rfl) ?_ | refine wp_region_pure_lit (by kernel_rfl) (by kernel_rfl) ?_
        repeat (go_big_quiet_step ((fail)))
        refine wpQuiet_nil ?_
        intro _ hw'
        obtain ⟨δ1, hw''⟩ := hw'
        subst hw''
        go_wp2
        first | refine wp_region_pure_tail_g 29 (by kernel_rfl) (by kernel_rfl) (by intro _ _ _ d _ h; cases d <;> exact h) ?_ | refine wp_region_pure_tail 29 (by kernel_rfl) (by kernel_rfl) (by intro _ _ _ d _ h; cases d <;> exact h) ?_
        simp only [List.take_succ_cons, List.take_zero, List.drop_succ_cons, List.drop_zero]
        repeat (go_big_quiet_step ((go_at_call 26; exact Calls.pure_of (right_i _ _ (by decide) _))))
        refine wpQuiet_nil ?_
        intro _ hw'
        obtain ⟨δ1, hw''⟩ := hw'
        subst hw''
        go_wp2
        exact ⟨⟨k + 1, _, by omega, by go_num, rfl⟩, by simp only [intOf]; omega⟩
    · obtain rfl : k = 64 := by omega
      clear hk hn
      rw [pad64_full _ (sched_len l 64)]
      obtain ⟨W, hW⟩ : ∃ W, sched l 64 = W := ⟨_, rfl⟩
      have hWl : W.length = 64 := by rw [← hW]; exact sched_len l 64
      rw [hW]
      have HW := Lib.hid hW
      clear hW
      have e1 := H1.out
      go_wp2_with (go_at_call 27; refine (numbers_w _).mono ?_; rintro e w' ⟨rfl, δ', rfl⟩)
      clear e1
      generalize { objs := δ.objs ++ δ'.objs, drawn := δ'.drawn : Junk } = δ1
      obtain ⟨gw, gk, gv, w1, r1, r2, r3, r4, r5, r6, r7, r8, ⟨q1, q2, q3, q4, q5, q6⟩, r10⟩ := three_rows w δ1 (uv W) (uv ks) (uv s) 52 52 41
      rw [r1, r2, r3, r4]
      have R7 := Lib.hid r7
      have R8 := Lib.hid r8
      have R5 := Lib.hid r5
      have R10 := Lib.hid r10
      clear r1 r2 r3 r4 r7 r8 r10 pb1 pb2 pb3 pb4 pb5 pb6 pb7 pb8 pb9 pb10 pb11 pb12 pb13 pb14 ps1 ps2 ps3 ps4 ps5 ps6 ps7 ps8 ps9 ps10 ps11 ps12 ps13 ps14 
      go_loopw [99] (fun n wr => ∃ (k : Nat) (δ2 : Junk), k ≤ 64 ∧ n = .int .i64 k ∧ wr = (w1.setRow gv (uv (rnds s W k))).grow δ2) (fun n _ => 64 - (intOf n).toNat)
      case atStart => exact ⟨0, ⟨#[], w1.drawn⟩, by omega, rfl, by rw [show rnds s W 0 = s from rfl, ← r5, setRow_same' _ _ r6]; exact (grow_self _).symm⟩
      case round =>
        obtain ⟨k, δ2, hk, rfl, rfl⟩ := hrel
        by_cases hn : k < 64
        · have hlen := rnds_len s W hs k
          have hss : IntKind.u32.signed = false := rfl
          have c7 := (R7.out k).trans (uv_at W k (by omega))
          have c8 := (R8.out k).trans (uv_at ks k (by rw [ks_len]; omega))
          clear r5
          have hfold : #[Value.int .u32 (u (tx (rnds s W k) (wordAt ks k) (wordAt W k) + ty (rnds s W k))), Value.int .u32 (u (wordAt (rnds s W k) 0)), Value.int .u32 (u (wordAt (rnds s W k) 1)), Value.int .u32 (u (wordAt (rnds s W k) 2)), Value.int .u32 (u (wordAt (rnds s W k) 3 + tx (rnds s W k) (wordAt ks k) (wordAt W k))), Value.int .u32 (u (wordAt (rnds s W k) 4)), Value.int .u32 (u (wordAt (rnds s W k) 5)), Value.int .u32 (u (wordAt (rnds s W k) 6))] = uv (rnds s W (k + 1)) := rfl
          unfold tx ty at hfold
          have hnext := rnds_len s W hs (k + 1)
          have x0 := uv_at (rnds s W k) 0 (by omega)
          have y0 := fun h => uv_elem (rnds s W k) 0 h
          have x1 := uv_at (rnds s W k) 1 (by omega)
          have y1 := fun h => uv_elem (rnds s W k) 1 h
          have x2 := uv_at (rnds s W k) 2 (by omega)
          have y2 := fun h => uv_elem (rnds s W k) 2 h
          have x3 := uv_at (rnds s W k) 3 (by omega)
          have y3 := fun h => uv_elem (rnds s W k) 3 h
          have x4 := uv_at (rnds s W k) 4 (by omega)
          have y4 := fun h => uv_elem (rnds s W k) 4 h
          have x5 := uv_at (rnds s W k) 5 (by omega)
          have y5 := fun h => uv_elem (rnds s W k) 5 h
          have x6 := uv_at (rnds s W k) 6 (by omega)
          have y6 := fun h => uv_elem (rnds s W k) 6 h
          have x7 := uv_at (rnds s W k) 7 (by omega)
          have y7 := fun h => uv_elem (rnds s W k) 7 h
          have xs := uv_size (rnds s W k)
          rw [hlen] at xs
          obtain ⟨kk, hkk⟩ : ∃ x, wordAt ks k = x := ⟨_, rfl⟩
          obtain ⟨ww, hww⟩ : ∃ x, wordAt W k = x := ⟨_, rfl⟩
          rw [hkk] at c8 hfold
          rw [hww] at c7 hfold
          obtain ⟨v0, hv0⟩ : ∃ x, wordAt (rnds s W k) 0 = x := ⟨_, rfl⟩
          simp only [hv0] at x0 y0 hfold
          obtain ⟨v1, hv1⟩ : ∃ x, wordAt (rnds s W k) 1 = x := ⟨_, rfl⟩
          simp only [hv1] at x1 y1 hfold
          obtain ⟨v2, hv2⟩ : ∃ x, wordAt (rnds s W k) 2 = x := ⟨_, rfl⟩
          simp only [hv2] at x2 y2 hfold
          obtain ⟨v3, hv3⟩ : ∃ x, wordAt (rnds s W k) 3 = x := ⟨_, rfl⟩
          simp only [hv3] at x3 y3 hfold
          obtain ⟨v4, hv4⟩ : ∃ x, wordAt (rnds s W k) 4 = x := ⟨_, rfl⟩
          simp only [hv4] at x4 y4 hfold
          obtain ⟨v5, hv5⟩ : ∃ x, wordAt (rnds s W k) 5 = x := ⟨_, rfl⟩
          simp only [hv5] at x5 y5 hfold
          obtain ⟨v6, hv6⟩ : ∃ x, wordAt (rnds s W k) 6 = x := ⟨_, rfl⟩
          simp only [hv6] at x6 y6 hfold
          obtain ⟨v7, hv7⟩ : ∃ x, wordAt (rnds s W k) 7 = x := ⟨_, rfl⟩
          simp only [hv7] at x7 y7 hfold
          clear hv0 hv1 hv2 hv3 hv4 hv5 hv6 hv7 hkk hww
          obtain ⟨V', hV'⟩ : ∃ V', rnds s W (k + 1) = V' := ⟨_, rfl⟩
          rw [hV'] at hnext hfold
          have HV' := Lib.hid hV'
          have HF := Lib.hid hfold
          clear hV' hfold hlen hs
          generalize uv (rnds s W k) = V at *
          have z7 : ∀ δ, ((w1.setRow gv V).grow δ).cell? ⟨gw, k, none⟩ = some (.int .u32 (u ww)) := fun δ => by
            rw [cell_grow_old _ _ _ _ _ (by rw [setRow_size]; exact q3), cell_setRow_other _ _ _ _ q1]; exact c7
          have z8 : ∀ δ, ((w1.setRow gv V).grow δ).cell? ⟨gk, k, none⟩ = some (.int .u32 (u kk)) := fun δ => by
            rw [cell_grow_old _ _ _ _ _ (by rw [setRow_size]; exact q4), cell_setRow_other _ _ _ _ q2]; exact c8
          clear c7 c8
          have hlt : (k : Int) < 64 := by omega
          go_wp2
          first | refine wp_region_pure_lit_g (by kernel_rfl) (by kernel_rfl) ?_ | refine wp_region_pure_lit (by kernel_rfl) (by kernel_rfl) ?_
          repeat (go_big_quiet_step ((fail)))
          refine wpQuiet_nil ?_
          intro _ hw'
          obtain ⟨δ1, hw''⟩ := hw'
          subst hw''
          go_wp2
          first | refine wp_region_pure_lit_g (by kernel_rfl) (by kernel_rfl) ?_ | refine wp_region_pure_lit (by kernel_rfl) (by kernel_rfl) ?_
          repeat (go_big_quiet_step ((go_at_call 26; exact Calls.pure_of (right_i _ _ (by decide) _))))
          refine wpQuiet_nil ?_
          intro _ hw'
          obtain ⟨δ1, hw''⟩ := hw'
          subst hw''
          go_wp2
          first | refine wp_region_pure_lit_g (by kernel_rfl) (by kernel_rfl) ?_ | refine wp_region_pure_lit (by kernel_rfl) (by kernel_rfl) ?_
          repeat (go_big_quiet_step ((go_at_call 26; exact Calls.pure_of (right_i _ _ (by decide) _))))
          refine wpQuiet_nil ?_
          intro _ hw'
          obtain ⟨δ1, hw''⟩ := hw'
          subst hw''
          have hF := HF.out
          go_wp2
          exact ⟨⟨k + 1, δ1, by omega, by go_num, by rw [HV'.out, setRow_setRow]⟩, by simp only [intOf]; omega⟩
        · obtain rfl : k = 64 := by omega
          clear hk hn
          have hlen := rnds_len s W hs 64
          have g2 : Grew w ((w1.setRow gv (uv (rnds s W 64))).grow δ2) := (Grew.setRow_new R10.out gv _ q6).grow δ2
          have p1 : ((w1.setRow gv (uv (rnds s W 64))).grow δ2).rowAt gv = uv (rnds s W 64) := by
            rw [rowAt_grow_old _ _ _ (by rw [setRow_size]; exact q5), rowAt_setRow_free _ _ _ r6]
          have p2 := Grew.rowAt g2 sB l1
          have p3 := Grew.rowFree g2 sB l1
          rw [H1.out] at p2
          rw [h2] at p3
          obtain ⟨w2, hw2⟩ : ∃ w2, (w1.setRow gv (uv (rnds s W 64))).grow δ2 = w2 := ⟨_, rfl⟩
          rw [hw2] at g2 p1 p2 p3 ⊢
          obtain ⟨V, hV⟩ : ∃ V, rnds s W 64 = V := ⟨_, rfl⟩
          rw [hV] at p1 hlen
          have G2 := Lib.hid g2
          have HV := Lib.hid hV
          have P2 := Lib.hid p2
          clear hw2 g2 hV p2
          go_wp2
          go_loopw [180] (fun n wr => ∃ (k : Nat) (δ3 : Junk), k ≤ 8 ∧ n = .int .i64 k ∧ wr = (w2.setRow sB (uv (mixk s V k))).grow δ3) (fun n _ => 8 - (intOf n).toNat)
          case atStart => exact ⟨0, ⟨#[], w2.drawn⟩, by omega, rfl, by rw [mixk_0 s V hs, ← P2.out, setRow_same' _ _ p3]; exact (grow_self _).symm⟩
          case round =>
            obtain ⟨k, δ3, hk, rfl, rfl⟩ := hrel
            by_cases hn : k < 8
            · have hlt : (k : Int) < 8 := by omega
              have m1 := mixk_len s V k
              have m2 := mixk_at s V k hn
              have m3 := mixk_set s V k hn
              rw [m2] at m3
              have m4 := uv_at (mixk s V k) k (by omega)
              have m5 := uv_at V k (by omega)
              have lz : sB < w2.heap.size := row_lt w2 (n := 7) (by rw [P2.out, uv_size, hs])
              go_wp2
              first | refine wp_region_pure_tail_g 9 (by kernel_rfl) (by kernel_rfl) (by intro _ _ _ d _ h; cases d <;> exact h) ?_ | refine wp_region_pure_tail 9 (by kernel_rfl) (by kernel_rfl) (by intro _ _ _ d _ h; cases d <;> exact h) ?_
              simp only [List.take_succ_cons, List.take_zero, List.drop_succ_cons, List.drop_zero]
              repeat (go_big_quiet_step ((fail)))
              refine wpQuiet_nil ?_
              intro _ hw'
              obtain ⟨δ1, hw''⟩ := hw'
              subst hw''
              go_wp2
              exact ⟨⟨k + 1, _, by omega, by go_num, rfl⟩, by simp only [intOf]; omega⟩
            · obtain rfl : k = 8 := by omega
              clear hk hn
              have hge : ¬ ((8 : Nat) : Int) < 8 := by omega
              go_wp2
              refine bodyPost_end (v := .tuple #[]) (by kernel_rfl) rfl ⟨⟨_, rfl⟩, Grew.grow ?_ δ3⟩
              rw [← HV.out, ← HW.out, mixk_8]
              exact Grew.setRow_old G2.out sB _ l1
end Go.Proofs.Ytmnnmndnpkanlaa
