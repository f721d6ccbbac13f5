/- What the statements of this chapter rest on, part 3. Conditions: none. -/
import Derived.Laws.CopyOwn
import Derived.Test.YtnhcamklammcdaaRows
import Derived.Laws.MakeOwn
import Derived.RangeFuncNested
import Derived.RangeFuncBound
import Derived.RangeFuncCalls
import Derived.RangeFuncLeaves
import Derived.RangeFuncFrom
import Derived.Shelf.Abstract
import Derived.Shelf.RegionOpen
import Derived.WalkKit
import Derived.OwnWalkIn
import Derived.TacticsInMore
import Derived.LoopNIn
import Derived.LoopIn
import Derived.ProofKit
import Derived.OpenShut
import Derived.Laws.IdiomArrays
import Derived.Carry
import Derived.DataShut
import Derived.ChangeSlices
import Derived.Deep.Matrix
import Derived.Test.YtnhcamklammcdaaM2
/- sha's add: 64 bytes go into eight words. -/
namespace Go.Proofs.Ytnhcamklammcdaa
set_option linter.unusedVariables false
set_option linter.unusedSimpArgs false
open Go.RowKit

theorem Grew.setRow_new {a b : World} (h : Grew a b) (g : Nat) (cs : Array Value) (hg : a.heap.size ≤ g) : Grew a (b.setRow g cs) :=
  Grew.of_below (below_setRow h.below hg cs)
theorem Grew.setRow_old {a b : World} (h : Grew a b) (g : Nat) (cs : Array Value) (hg : g < a.heap.size) : Grew (a.setRow g cs) (b.setRow g cs) := by
  obtain ⟨δ, rfl⟩ := h
  rw [setRow_grow _ _ _ _ hg]
  exact ⟨δ, rfl⟩
theorem Grew.rowAt {a b : World} (h : Grew a b) (g : Nat) (hg : g < a.heap.size) : b.rowAt g = a.rowAt g := rowAt_of_heap (h.heap hg)
theorem Grew.rowFree {a b : World} (h : Grew a b) (g : Nat) (hg : g < a.heap.size) : b.rowFree g = a.rowFree g := rowFree_of_heap (h.heap hg)
theorem under_st : Try.prog.underlying 82 = some (.array 8 75) := by kernel_rfl
theorem info_u32 : (Try.prog.info? 75).map (·.size) = some 1 := by kernel_rfl
@[go_sem] theorem index_st (l : List (BitVec 32)) (i : Nat) (hl : l.length = 8) (h : i < 8) (w : World) : (Instr.index 82 (.agg (uv l)) (.int .i64 (i : Int))).run Try.prog w = .ok (.int .u32 (u (wordAt l i))) w := by
  have hs : (sizeOf 75).run Try.prog w = .ok 1 w := by
    have := info_u32
    cases hq : Try.prog.info? 75 with
    | none => rw [hq] at this; cases this
    | some i => simp [hq] at this; simp [sizeOf, typeInfo, hq, this]
  have hp : (part 75 (uv l) i).run Try.prog w = .ok (.int .u32 (u (wordAt l i))) w := by
    have ha : (isAgg 75).run Try.prog w = .ok false w := by
      unfold isAgg
      rw [Sem.run_bind, run_underlying Try.underlying75 w]
      rfl
    simp [part, Sem.run_bind, ha, uv_at l i (by omega)]
  have hi : (0 : Int) ≤ i ∧ (i : Int) < (8 : Nat) := by omega
  simp only [Instr.index, Sem.run_bind, asIntOf, Sem.run_pure, Result.andThen_ok, run_underlying under_st w, if_pos hi, hs, Int.toNat_natCast, Nat.mul_one, hp]
theorem three_rows (w : World) (δ : Junk) (a b c : Array Value) (ta tb tc : TypeId) : ∃ gw gk gv w1, (((w.alloc (.cells a ta)).grow δ).alloc (.cells b tb)).alloc (.cells c tc) = w1 ∧ w.heap.size + 1 + δ.n + 1 = gv ∧ w.heap.size + 1 + δ.n = gk ∧ w.heap.size = gw ∧
    w1.rowAt gv = c ∧ w1.rowFree gv = true ∧ (∀ i, w1.cell? ⟨gw, i, none⟩ = a[i]?) ∧ (∀ i, w1.cell? ⟨gk, i, none⟩ = b[i]?) ∧ (gw ≠ gv ∧ gk ≠ gv ∧ gw < w1.heap.size ∧ gk < w1.heap.size ∧ gv < w1.heap.size ∧ w.heap.size ≤ gv) ∧ Grew w w1 := by
  refine ⟨_, _, _, _, rfl, rfl, rfl, rfl, ?_, ?_, ?_, ?_, ?_, ?_⟩
  · simp [go_sem]
  · simp [go_sem]
  · intro i; rw [cell_rowAt]; simp [go_sem]
  · intro i; rw [cell_rowAt]; simp [go_sem]
  · refine ⟨?_, ?_, ?_, ?_, ?_, ?_⟩ <;> (try simp only [size_grow, World.size_alloc]) <;> omega
  · exact (by repeat (first | with_reducible exact Grew.refl _ | with_reducible apply Grew.alloc | with_reducible apply Grew.grow | with_reducible apply Grew.drew | with_reducible apply Grew.drewN))
set_option maxRecDepth 100000 in
set_option maxHeartbeats 16000000 in
theorem add_w (s : List (BitVec 32)) (l : List Nat) (hs : s.length = 8) (hl : ∀ c ∈ l, c < 256) (sB bB o c : Nat) (w : World) (h1 : w.rowAt sB = uv s) (h2 : w.rowFree sB = true) (hne : sB ≠ bB)
    (hb : ∀ j, j < 64 → w.cell? ⟨bB, o + j, none⟩ = some (.int .u8 (byteAt l j : Nat))) :
    Calls Try.prog 54 #[.pointer (some ⟨sB, 0, none⟩), .slice (some ⟨bB, o, none⟩) 64 c] w fun e w' => (∃ v, e = .returned v) ∧ Grew (w.setRow sB (uv (compress s l))) w' := by
  have l1 : sB < w.heap.size := row_lt w (n := 7) (by rw [h1, uv_size, hs])
  have l2 : bB < w.heap.size := World.block_lt_of_cell? w _ (hb 0 (by omega))
  obtain ⟨ps1, ps2, ps3, ps4, ps5, ps6, ps7, ps8, ps9, ps10, ps11, ps12, ps13, ps14⟩ := places_of w sB l1
  obtain ⟨pb1, pb2, pb3, pb4, pb5, pb6, pb7, pb8, pb9, pb10, pb11, pb12, pb13, pb14⟩ := places_of w bB l2
  have hb' := fun i => byteAt_lt l hl i
  have HB := Lib.hid hb
  have HL := Lib.hid hb'
  have H1 := Lib.hid h1
  have HN := Lib.hid hne
  clear hb hl hb' h1 hne
  go_enter Try.func54, Try.ntmps54
  go_wp2
  go_loopw [17] (fun n wr => ∃ (k : Nat) (δ : Junk), k ≤ 64 ∧ n = .int .i64 k ∧ wr = (w.alloc (.cells (uv (pad64 (sched l k))) 100)).grow δ) (fun n _ => 64 - (intOf n).toNat)
  case atStart => exact ⟨0, ⟨#[], w.drawn⟩, by omega, rfl, (grow_self _).symm⟩
  case round =>
    obtain ⟨k, δ, hk, rfl, rfl⟩ := hrel
    by_cases hn : k < 64
    · have hlen := sched_len l k
      have hpl := pad64_len (sched l k) (by omega)
      by_cases h16 : k < 16
      · have c0 := HB.out (4 * k) (by omega)
        have c1 := HB.out (4 * k + 1) (by omega)
        have c2 := HB.out (4 * k + 2) (by omega)
        have c3 := HB.out (4 * k + 3) (by omega)
        have a0 := HL.out (4 * k)
        have a1 := HL.out (4 * k + 1)
        have a2 := HL.out (4 * k + 2)
        have a3 := HL.out (4 * k + 3)
        have o2 := be_or2 _ _ a0 a1
        have o3 := be_or3 _ _ _ a0 a1 a2
        have o4 := be_or4 _ _ _ _ a0 a1 a2 a3
        have hs16 := sched_low l k h16
        go_wp2
        first | refine wp_region_pure_tail_g 35 (by kernel_rfl) (by kernel_rfl) (by intro _ _ _ d _ h; cases d <;> exact h) ?_ | refine wp_region_pure_tail 35 (by kernel_rfl) (by kernel_rfl) (by intro _ _ _ d _ h; cases d <;> exact h) ?_
        simp only [List.take_succ_cons, List.take_zero, List.drop_succ_cons, List.drop_zero]
        repeat (go_big_quiet_step ((fail)))
        refine wpQuiet_nil ?_
        intro _ hw'
        obtain ⟨δ1, hw''⟩ := hw'
        subst hw''
        go_wp2
        exact ⟨⟨k + 1, _, by omega, by go_num, rfl⟩, by simp only [intOf]; omega⟩
      · have hs16 := sched_high l k h16 hn
        have g1 : (16 : Int) ≤ (k : Int) := by omega
        have g2 : (15 : Int) ≤ (k : Int) := by omega
        have g3 : (2 : Int) ≤ (k : Int) := by omega
        have g4 : (7 : Int) ≤ (k : Int) := by omega
        have m1 : 16 ≤ k := by omega
        have m2 : 15 ≤ k := by omega
        have m3 : 2 ≤ k := by omega
        have m4 : 7 ≤ k := by omega
        have d1 := uv_at (pad64 (sched l k)) (k - 15) (by omega)
        have d2 := uv_at (pad64 (sched l k)) (k - 2) (by omega)
        have d3 := uv_at (pad64 (sched l k)) (k - 16) (by omega)
        have d4 := uv_at (pad64 (sched l k)) (k - 7) (by omega)
        go_wp2
        first | refine wp_region_pure_lit_g (by kernel_rfl) (by kernel_rfl) ?_ | refine wp_region_pure_lit (by kernel_rfl) (by kernel_rfl) ?_
        repeat (go_big_quiet_step ((fail)))
        refine wpQuiet_nil ?_
        intro _ hw'
        obtain ⟨δ1, hw''⟩ := hw'
        subst hw''
        go_wp2
        first | refine wp_region_pure_tail_g 29 (by kernel_rfl) (by kernel_rfl) (by intro _ _ _ d _ h; cases d <;> exact h) ?_ | refine wp_region_pure_tail 29 (by kernel_rfl) (by kernel_rfl) (by intro _ _ _ d _ h; cases d <;> exact h) ?_
        simp only [List.take_succ_cons, List.take_zero, List.drop_succ_cons, List.drop_zero]
        repeat (go_big_quiet_step ((go_at_call 68; exact Calls.pure_of (right_i _ _ (by decide) _))))
        refine wpQuiet_nil ?_
        intro _ hw'
        obtain ⟨δ1, hw''⟩ := hw'
        subst hw''
        go_wp2
        exact ⟨⟨k + 1, _, by omega, by go_num, rfl⟩, by simp only [intOf]; omega⟩
    · obtain rfl : k = 64 := by omega
      clear hk hn
      rw [pad64_full _ (sched_len l 64)]
      obtain ⟨W, hW⟩ : ∃ W, sched l 64 = W := ⟨_, rfl⟩
      have hWl : W.length = 64 := by rw [← hW]; exact sched_len l 64
      rw [hW]
      have HW := Lib.hid hW
      clear hW
      have e1 := H1.out
      go_wp2_with (go_at_call 69; refine (numbers_w _).mono ?_; rintro e w' ⟨rfl, δ', rfl⟩)
      clear e1
      generalize { objs := δ.objs ++ δ'.objs, drawn := δ'.drawn : Junk } = δ1
      obtain ⟨gw, gk, gv, w1, r1, r2, r3, r4, r5, r6, r7, r8, ⟨q1, q2, q3, q4, q5, q6⟩, r10⟩ := three_rows w δ1 (uv W) (uv ks) (uv s) 100 100 82
      rw [r1, r2, r3, r4]
      have R7 := Lib.hid r7
      have R8 := Lib.hid r8
      have R5 := Lib.hid r5
      have R10 := Lib.hid r10
      clear r1 r2 r3 r4 r7 r8 r10 pb1 pb2 pb3 pb4 pb5 pb6 pb7 pb8 pb9 pb10 pb11 pb12 pb13 pb14 ps1 ps2 ps3 ps4 ps5 ps6 ps7 ps8 ps9 ps10 ps11 ps12 ps13 ps14 
      go_loopw [99] (fun n wr => ∃ (k : Nat) (δ2 : Junk), k ≤ 64 ∧ n = .int .i64 k ∧ wr = (w1.setRow gv (uv (rnds s W k))).grow δ2) (fun n _ => 64 - (intOf n).toNat)
      case atStart => exact ⟨0, ⟨#[], w1.drawn⟩, by omega, rfl, by rw [show rnds s W 0 = s from rfl, ← r5, setRow_same' _ _ r6]; exact (grow_self _).symm⟩
      case round =>
        obtain ⟨k, δ2, hk, rfl, rfl⟩ := hrel
        by_cases hn : k < 64
        · have hlen := rnds_len s W hs k
          have hss : IntKind.u32.signed = false := rfl
          have c7 := (R7.out k).trans (uv_at W k (by omega))
          have c8 := (R8.out k).trans (uv_at ks k (by rw [ks_len]; omega))
          clear r5
          have hfold : #[Value.int .u32 (u (tx (rnds s W k) (wordAt ks k) (wordAt W k) + ty (rnds s W k))), Value.int .u32 (u (wordAt (rnds s W k) 0)), Value.int .u32 (u (wordAt (rnds s W k) 1)), Value.int .u32 (u (wordAt (rnds s W k) 2)), Value.int .u32 (u (wordAt (rnds s W k) 3 + tx (rnds s W k) (wordAt ks k) (wordAt W k))), Value.int .u32 (u (wordAt (rnds s W k) 4)), Value.int .u32 (u (wordAt (rnds s W k) 5)), Value.int .u32 (u (wordAt (rnds s W k) 6))] = uv (rnds s W (k + 1)) := rfl
          unfold tx ty at hfold
          have hnext := rnds_len s W hs (k + 1)
          have x0 := uv_at (rnds s W k) 0 (by omega)
          have y0 := fun h => uv_elem (rnds s W k) 0 h
          have x1 := uv_at (rnds s W k) 1 (by omega)
          have y1 := fun h => uv_elem (rnds s W k) 1 h
          have x2 := uv_at (rnds s W k) 2 (by omega)
          have y2 := fun h => uv_elem (rnds s W k) 2 h
          have x3 := uv_at (rnds s W k) 3 (by omega)
          have y3 := fun h => uv_elem (rnds s W k) 3 h
          have x4 := uv_at (rnds s W k) 4 (by omega)
          have y4 := fun h => uv_elem (rnds s W k) 4 h
          have x5 := uv_at (rnds s W k) 5 (by omega)
          have y5 := fun h => uv_elem (rnds s W k) 5 h
          have x6 := uv_at (rnds s W k) 6 (by omega)
          have y6 := fun h => uv_elem (rnds s W k) 6 h
          have x7 := uv_at (rnds s W k) 7 (by omega)
          have y7 := fun h => uv_elem (rnds s W k) 7 h
          have xs := uv_size (rnds s W k)
          rw [hlen] at xs
          obtain ⟨kk, hkk⟩ : ∃ x, wordAt ks k = x := ⟨_, rfl⟩
          obtain ⟨ww, hww⟩ : ∃ x, wordAt W k = x := ⟨_, rfl⟩
          rw [hkk] at c8 hfold
          rw [hww] at c7 hfold
          obtain ⟨v0, hv0⟩ : ∃ x, wordAt (rnds s W k) 0 = x := ⟨_, rfl⟩
          simp only [hv0] at x0 y0 hfold
          obtain ⟨v1, hv1⟩ : ∃ x, wordAt (rnds s W k) 1 = x := ⟨_, rfl⟩
          simp only [hv1] at x1 y1 hfold
          obtain ⟨v2, hv2⟩ : ∃ x, wordAt (rnds s W k) 2 = x := ⟨_, rfl⟩
          simp only [hv2] at x2 y2 hfold
          obtain ⟨v3, hv3⟩ : ∃ x, wordAt (rnds s W k) 3 = x := ⟨_, rfl⟩
          simp only [hv3] at x3 y3 hfold
          obtain ⟨v4, hv4⟩ : ∃ x, wordAt (rnds s W k) 4 = x := ⟨_, rfl⟩
          simp only [hv4] at x4 y4 hfold
          obtain ⟨v5, hv5⟩ : ∃ x, wordAt (rnds s W k) 5 = x := ⟨_, rfl⟩
          simp only [hv5] at x5 y5 hfold
          obtain ⟨v6, hv6⟩ : ∃ x, wordAt (rnds s W k) 6 = x := ⟨_, rfl⟩
          simp only [hv6] at x6 y6 hfold
          obtain ⟨v7, hv7⟩ : ∃ x, wordAt (rnds s W k) 7 = x := ⟨_, rfl⟩
          simp only [hv7] at x7 y7 hfold
          clear hv0 hv1 hv2 hv3 hv4 hv5 hv6 hv7 hkk hww
          obtain ⟨V', hV'⟩ : ∃ V', rnds s W (k + 1) = V' := ⟨_, rfl⟩
          rw [hV'] at hnext hfold
          have HV' := Lib.hid hV'
          have HF := Lib.hid hfold
          clear hV' hfold hlen hs
          generalize uv (rnds s W k) = V at *
          have z7 : ∀ δ, ((w1.setRow gv V).grow δ).cell? ⟨gw, k, none⟩ = some (.int .u32 (u ww)) := fun δ => by
            rw [cell_grow_old _ _ _ _ _ (by rw [setRow_size]; exact q3), cell_setRow_other _ _ _ _ q1]; exact c7
          have z8 : ∀ δ, ((w1.setRow gv V).grow δ).cell? ⟨gk, k, none⟩ = some (.int .u32 (u kk)) := fun δ => by
            rw [cell_grow_old _ _ _ _ _ (by rw [setRow_size]; exact q4), cell_setRow_other _ _ _ _ q2]; exact c8
          clear c7 c8
          have hlt : (k : Int) < 64 := by omega
          go_wp2
          first | refine wp_region_pure_lit_g (by kernel_rfl) (by kernel_rfl) ?_ | refine wp_region_pure_lit (by kernel_rfl) (by kernel_rfl) ?_
          repeat (go_big_quiet_step ((fail)))
          refine wpQuiet_nil ?_
          intro _ hw'
          obtain ⟨δ1, hw''⟩ := hw'
          subst hw''
          go_wp2
          first | refine wp_region_pure_lit_g (by kernel_rfl) (by kernel_rfl) ?_ | refine wp_region_pure_lit (by kernel_rfl) (by kernel_rfl) ?_
          repeat (go_big_quiet_step ((go_at_call 68; exact Calls.pure_of (right_i _ _ (by decide) _))))
          refine wpQuiet_nil ?_
          intro _ hw'
          obtain ⟨δ1, hw''⟩ := hw'
          subst hw''
          go_wp2
          first | refine wp_region_pure_lit_g (by kernel_rfl) (by kernel_rfl) ?_ | refine wp_region_pure_lit (by kernel_rfl) (by kernel_rfl) ?_
          repeat (go_big_quiet_step ((go_at_call 68; exact Calls.pure_of (right_i _ _ (by decide) _))))
          refine wpQuiet_nil ?_
          intro _ hw'
          obtain ⟨δ1, hw''⟩ := hw'
          subst hw''
          have hF := HF.out
          go_wp2
          exact ⟨⟨k + 1, δ1, by omega, by go_num, by rw [HV'.out, setRow_setRow]⟩, by simp only [intOf]; omega⟩
        · obtain rfl : k = 64 := by omega
          clear hk hn
          have hlen := rnds_len s W hs 64
          have g2 : Grew w ((w1.setRow gv (uv (rnds s W 64))).grow δ2) := (Grew.setRow_new R10.out gv _ q6).grow δ2
          have p1 : ((w1.setRow gv (uv (rnds s W 64))).grow δ2).rowAt gv = uv (rnds s W 64) := by
            rw [rowAt_grow_old _ _ _ (by rw [setRow_size]; exact q5), rowAt_setRow_free _ _ _ r6]
          have p2 := Grew.rowAt g2 sB l1
          have p3 := Grew.rowFree g2 sB l1
          rw [H1.out] at p2
          rw [h2] at p3
          obtain ⟨w2, hw2⟩ : ∃ w2, (w1.setRow gv (uv (rnds s W 64))).grow δ2 = w2 := ⟨_, rfl⟩
          rw [hw2] at g2 p1 p2 p3 ⊢
          obtain ⟨V, hV⟩ : ∃ V, rnds s W 64 = V := ⟨_, rfl⟩
          rw [hV] at p1 hlen
          have G2 := Lib.hid g2
          have HV := Lib.hid hV
          have P2 := Lib.hid p2
          clear hw2 g2 hV p2
          go_wp2
          go_loopw [180] (fun n wr => ∃ (k : Nat) (δ3 : Junk), k ≤ 8 ∧ n = .int .i64 k ∧ wr = (w2.setRow sB (uv (mixk s V k))).grow δ3) (fun n _ => 8 - (intOf n).toNat)
          case atStart => exact ⟨0, ⟨#[], w2.drawn⟩, by omega, rfl, by rw [mixk_0 s V hs, ← P2.out, setRow_same' _ _ p3]; exact (grow_self _).symm⟩
          case round =>
            obtain ⟨k, δ3, hk, rfl, rfl⟩ := hrel
            by_cases hn : k < 8
            · have hlt : (k : Int) < 8 := by omega
              have m1 := mixk_len s V k
              have m2 := mixk_at s V k hn
              have m3 := mixk_set s V k hn
              rw [m2] at m3
              have m4 := uv_at (mixk s V k) k (by omega)
              have m5 := uv_at V k (by omega)
              have lz : sB < w2.heap.size := row_lt w2 (n := 7) (by rw [P2.out, uv_size, hs])
              go_wp2
              first | refine wp_region_pure_tail_g 9 (by kernel_rfl) (by kernel_rfl) (by intro _ _ _ d _ h; cases d <;> exact h) ?_ | refine wp_region_pure_tail 9 (by kernel_rfl) (by kernel_rfl) (by intro _ _ _ d _ h; cases d <;> exact h) ?_
              simp only [List.take_succ_cons, List.take_zero, List.drop_succ_cons, List.drop_zero]
              repeat (go_big_quiet_step ((fail)))
              refine wpQuiet_nil ?_
              intro _ hw'
              obtain ⟨δ1, hw''⟩ := hw'
              subst hw''
              go_wp2
              exact ⟨⟨k + 1, _, by omega, by go_num, rfl⟩, by simp only [intOf]; omega⟩
            · obtain rfl : k = 8 := by omega
              clear hk hn
              have hge : ¬ ((8 : Nat) : Int) < 8 := by omega
              go_wp2
              refine bodyPost_end (v := .tuple #[]) (by kernel_rfl) rfl ⟨⟨_, rfl⟩, Grew.grow ?_ δ3⟩
              rw [← HV.out, ← HW.out, mixk_8]
              exact Grew.setRow_old G2.out sB _ l1
end Go.Proofs.Ytnhcamklammcdaa
/- A slice of zeros, made; what a new block shows. -/
namespace Go.Proofs.Ytnhcamklammcdaa
set_option linter.unusedVariables false
set_option linter.unusedSimpArgs false
open Go.RowKit
set_option maxRecDepth 100000
def zeros (n : Nat) : List Nat := List.replicate n 0
theorem zeros_len (n : Nat) : (zeros n).length = n := by simp [zeros]
@[go_sem] theorem make_b (n : Nat) (hn : n ≤ 1099511627776) (w : World) : (Instr.makeSlice 65 (.int .i64 (n : Int)) (.int .i64 (n : Int))).run Try.prog w = .ok (.slice (some ⟨w.heap.size, 0, none⟩) n n) (w.alloc (.cells (bys (zeros n)).toArray 5)) := by
  obtain ⟨i, hi, hz, hsz, hby⟩ := info_b
  have h := run_make (P := Try.prog) w 65 5 i (.int .u8 0) under_bs hi hz .i64 .i64 n n (by omega) (by omega) (by rw [hby]; omega) (by omega)
  rw [h, hsz]
  simp only [Int.toNat_natCast]
  congr 2
  congr 1
  apply Array.ext'
  simp only [madeCells, Value.cells, bys, zeros, Nat.mul_one, List.map_replicate]
  apply List.ext_getElem
  · simp
  · intro k h1 h2
    simp [Nat.mod_one]
theorem shows_alloc (w : World) (xs : List Value) (t : TypeId) (c : Nat) : Shows (w.alloc (.cells xs.toArray t)) (.slice (some ⟨w.heap.size, 0, none⟩) xs.length c) xs := by
  refine .inl ⟨_, _, _, rfl, by simp, fun j u hj => ?_⟩
  rw [cell_rowAt]
  simp [go_sem, hj]
end Go.Proofs.Ytnhcamklammcdaa
/- Regions that draw their order, in which some steps hand back what depends on the world they find (new slices): quiet steps go first as soon as they can; the others go in whatever order, each in whatever world has come meanwhile. No program in sight. -/
namespace Go
set_option linter.unusedVariables false
set_option linter.unusedSimpArgs false
open Go.RowKit
section
variable {P : Program} {ops : Array Oper} {md : Region.Mode}
/-- Whatever order comes, in whatever world has come meanwhile. -/
def wpFlow (P : Program) (md : Region.Mode) (ops : Array Oper) (Q : Exit → Act → World → Prop) : Nat → Array Bool → Act → World → Prop
  | 0, listed, a, w => Region.ready md ops listed = [] ∧ ∀ w', Grew w w' → Q .normal a w'
  | f + 1, listed, a, w =>
    (Region.ready md ops listed = [] → ∀ w', Grew w w' → Q .normal a w') ∧
    ∀ i ∈ Region.ready md ops listed, ∀ w', Grew w w' → wpOp P ops Q i (fun a' w'' => Grew w' w'' ∧ wpFlow P md ops Q f (listed.setIfInBounds i true) a' w'') a w'
theorem wpFlow_mono {Q : Exit → Act → World → Prop} : ∀ (f : Nat) (listed : Array Bool) (a : Act) (w w' : World), Grew w w' → wpFlow P md ops Q f listed a w → wpFlow P md ops Q f listed a w'
  | 0, _, _, _, _, hg, h => ⟨h.1, fun w'' hg' => h.2 w'' (hg.trans hg')⟩
  | f + 1, listed, a, w, w', hg, h => ⟨fun h0 w'' hg' => h.1 h0 w'' (hg.trans hg'), fun i hi w'' hg' => h.2 i hi w'' (hg.trans hg')⟩
theorem wpAny_of_flow {Q : Exit → Act → World → Prop} : ∀ (f : Nat) (listed : Array Bool) (a : Act) (w : World), wpFlow P md ops Q f listed a w → wpAny P md ops Q f listed a w
  | 0, _, _, w, h => ⟨h.1, h.2 w (Grew.refl _)⟩
  | f + 1, listed, a, w, h => ⟨fun h0 => h.1 h0 w (Grew.refl _), fun i hi => wpOp_mono (fun a' w' h' => wpAny_of_flow f _ a' w' h'.2) (h.2 i hi w (Grew.refl _))⟩
theorem GivesIn.sub {H H' : World → Prop} {o : Oper} {v : Value} {a : Act} (hs : ∀ w, H' w → H w) (h : GivesIn P ops H o v a) : GivesIn P ops H' o v a := by
  rcases h with ⟨h1, h2⟩ | h
  · exact .inl ⟨h1, fun w hw => h2 w (hs w hw)⟩
  · exact .inr h
/-- A quiet step goes first. -/
theorem wpFlow_first {i : Nat} {oi : Oper} {v : Value} {Q : Exit → Act → World → Prop} (hQ : ∀ c a w d v, Q (.panic c) (Act.put a d v) w → Q (.panic c) a w)
    (hi : ops[i]? = some oi) (hsel : ∀ (j : Nat) (o : Oper) cs b, ops[j]? = some o → o.op ≠ .select cs b) :
    ∀ (f : Nat) (listed : Array Bool) (a : Act) (w : World),
      (∀ j oj, ops[j]? = some oj → j ≠ i → listed.getD j true = false → (∀ e ∈ oj.after, Region.binds md e = true → e.on ≠ i) → oi.apart ops oj = true) →
      i ∈ Region.ready md ops listed → GivesIn P ops (fun w' => Grew w w') oi v a →
      wpFlow P md ops Q f (listed.setIfInBounds i true) (a.put oi.dst v) w → wpFlow P md ops Q (f + 1) listed a w := by
  have self : ∀ (f : Nat) (listed : Array Bool) (a : Act) (w : World), GivesIn P ops (fun w' => Grew w w') oi v a → wpFlow P md ops Q f (listed.setIfInBounds i true) (a.put oi.dst v) w →
      ∀ w', Grew w w' → wpOp P ops Q i (fun a' w'' => Grew w' w'' ∧ wpFlow P md ops Q f (listed.setIfInBounds i true) a' w'') a w' := fun f listed a w hy Hh w' hg =>
    wpOp_of_gives hi hy hg fun w'' hg' => ⟨hg', wpFlow_mono f _ _ _ _ (hg.trans hg') Hh⟩
  intro f
  induction f with
  | zero =>
    intro listed a w _ hr hy Hh
    refine ⟨fun h => (by rw [h] at hr; cases hr), fun j hj => ?_⟩
    by_cases hji : j = i
    · subst hji; exact self 0 listed a w hy Hh
    · have := ready_mono hj hji
      rw [Hh.1] at this
      cases this
  | succ f ih =>
    intro listed a w hfree hr hy Hh
    refine ⟨fun h => (by rw [h] at hr; cases hr), fun j hj => ?_⟩
    by_cases hji : j = i
    · subst hji; exact self (f + 1) listed a w hy Hh
    · have h1 := Hh.2 j (ready_mono hj hji)
      obtain ⟨hjun, oj, hoj, hall⟩ := mem_ready.1 hj
      have hun := (mem_ready.1 hr).1
      have hnot : ∀ e ∈ oj.after, Region.binds md e = true → e.on ≠ i := fun e he hb heq => by
        have h1 := hall e he hb
        rw [heq, getD_both hun] at h1
        cases h1
      have hfree' : ∀ k ok, ops[k]? = some ok → k ≠ i → (listed.setIfInBounds j true).getD k true = false →
          (∀ e ∈ ok.after, Region.binds md e = true → e.on ≠ i) → oi.apart ops ok = true := fun k ok hk hki hun hno => by
        refine hfree k ok hk hki ?_ hno
        by_cases hjk : j = k
        · subst hjk; exact hjun
        · rw [getD_set_ne true hjk] at hun; exact hun
      have hap := hfree j oj hoj hji hjun hnot
      intro w' hg
      have h2 := wpOp_putG hoj hap (fun cs b => hsel i oi cs b hi) (fun cs b => hsel j oj cs b hoj) hQ hy (h1 w' hg)
      refine wpOp_mono (fun a' w'' h3 => ⟨h3.2.1, ih (listed.setIfInBounds j true) a' w'' hfree' (ready_mono hr (Ne.symm hji)) (h3.1.sub fun x hx => hg.trans (h3.2.1.trans hx)) ?_⟩) h2
      rw [Array.setIfInBounds_comm _ _ hji]
      exact h3.2.2
def Region.flowLex (md : Region.Mode) (ops : Array Oper) : List Nat → Array Bool → Bool
  | [], _ => true
  | k :: ks, listed => (Region.ready md ops listed).contains k && Region.free md ops listed k && Region.flowLex md ops ks (listed.setIfInBounds k true)
theorem wpFlow_lex {Q : Exit → Act → World → Prop} {A : Act} (hQ : ∀ c a w d v, Q (.panic c) (Act.put a d v) w → Q (.panic c) a w) (hsel : Region.noSelect ops = true) {w : World} (f : Nat) :
    ∀ (qs : List Nat) (listed : Array Bool) (a : Act), wpFlow P md ops Q f (Region.listAll listed qs) A w → Region.flowLex md ops qs listed = true → givesAll P ops (fun w' => Grew w w') A qs a → wpFlow P md ops Q (qs.length + f) listed a w
  | [], listed, a, hE, _, h => by
    simp only [givesAll] at h
    subst h
    rw [List.length_nil, Nat.zero_add]
    exact hE
  | k :: qs, listed, a, hE, hB, h => by
    simp only [Region.flowLex, Bool.and_eq_true] at hB
    obtain ⟨⟨hr, hf⟩, hB'⟩ := hB
    obtain ⟨o, d, ho', hd, hy, hk⟩ := h
    have hr' : k ∈ Region.ready md ops listed := by simpa using hr
    rw [List.length_cons, show qs.length + 1 + f = qs.length + f + 1 by omega]
    refine wpFlow_first hQ ho' (Region.noSelect_spec hsel) _ listed a w (Region.free_spec ho' hf) hr' hy ?_
    rw [hd]
    exact wpFlow_lex hQ hsel f qs _ _ hE hB' hk
end
section
variable {P : Program} {l : List Oper} {Q : Exit → Act → World → Prop}
/-- The call in the quiet part of a region's beginning. -/
theorem Calls.pure_of_g3 {f : FuncId} {args : Array Value} {X : World} {a b n : Junk} {v : Value}
    (h : Calls P f args (X.grow ⟨a.objs ++ (b.objs ++ n.objs), n.drawn⟩) fun e w' => e = .returned v ∧ Grew (X.grow ⟨a.objs ++ (b.objs ++ n.objs), n.drawn⟩) w') :
    Calls P f args (X.grow ⟨a.objs ++ (b.objs ++ n.objs), n.drawn⟩) fun e w'' => e = .returned v ∧ ∃ m : Junk, w'' = X.grow ⟨a.objs ++ (b.objs ++ m.objs), m.drawn⟩ :=
  h.mono fun _ _ ⟨he, hm⟩ => ⟨he, by obtain ⟨m, rfl⟩ := hm; exact ⟨⟨n.objs ++ m.objs, m.drawn⟩, by simp [grow_grow, Array.append_assoc]⟩⟩
/-- Quiet steps, in the text's order. -/
theorem wpFlow_quiets (qs : List Nat) {n : Nat} {listed : Array Bool} {a : Act} {w : World} (hn : decide (qs.length ≤ n) = true)
    (hB : (Region.noSelect l.toArray && Region.flowLex .any l.toArray qs listed && envOk qs l.length) = true) (hD : envDsts qs l.toArray a.tmps.size = true)
    (hQ : ∀ c a w d v, Q (.panic c) (Act.put a d v) w → Q (.panic c) a w) (V : Act)
    (hq : ∀ A, Hid (A = V) → ∀ δ', wpQuiet P l.toArray (fun w' => ∃ n, w' = (w.grow δ').grow n) (fun a' => a' = A) (pickOps l qs) a)
    (h : wpFlow P .any l.toArray Q (n - qs.length) (Region.listAll listed qs) V w) : wpFlow P .any l.toArray Q n listed a w := by
  simp only [Bool.and_eq_true] at hB
  obtain ⟨⟨hsel, hlex⟩, hok⟩ := hB
  obtain ⟨f, rfl⟩ : ∃ f, n = qs.length + f := ⟨n - qs.length, by have := of_decide_eq_true hn; omega⟩
  rw [Nat.add_sub_cancel_left] at h
  exact wpFlow_lex hQ hsel f qs listed a h hlex (givesAll_of_quiet (H := fun w' => Grew w w') ⟨w, Grew.refl _⟩ qs (pickOps l qs) a (map_pick l qs hok) hD (fun Y ⟨n, hY⟩ => by subst hY; exact hq V (rfl : V = V) n))
/-- A step of the others. -/
def wpFlowS (P : Program) (l : List Oper) (Q : Exit → Act → World → Prop) (f : Nat) (listed : Array Bool) (k : Nat) (a : Act) (w : World) : Prop :=
  ∀ δ, wpList P l.toArray (Exit.then (fun a' w'' => Grew (w.grow δ) w'' ∧ wpFlow P .any l.toArray Q f (listed.setIfInBounds k true) a' w'') Q) (pickOps l [k]) a (w.grow δ)
theorem wpFlow_of_S {f : Nat} {listed : Array Bool} {a : Act} {w : World} (rs : List Nat) (hr : Region.ready .any l.toArray listed = rs) (hne : rs.isEmpty = false) (hk : envOk rs l.length = true) (h : ∀ k ∈ rs, wpFlowS P l Q f listed k a w) :
    wpFlow P .any l.toArray Q (f + 1) listed a w := by
  refine ⟨fun h0 => (by rw [hr] at h0; rw [h0] at hne; cases hne), fun k hkr w' hg => ?_⟩
  rw [hr] at hkr
  have hlt : k < l.length := by
    unfold envOk at hk
    simpa using List.all_eq_true.1 hk k hkr
  obtain ⟨δ, rfl⟩ := hg
  have h1 := h k hkr δ
  rw [pickOps_cons, pick1_eq l k _ hlt, pickOps_nil] at h1
  unfold wpOp
  simp only [List.getElem?_toArray, List.getElem?_eq_getElem hlt]
  unfold wpList at h1
  split at h1
  · rename_i hw
    rw [if_pos hw]
    rcases h1 with h1 | ⟨h1, a2, w2, h2⟩
    · exact .inl (by
        unfold Oper.wp at *
        generalize (execOp a.eval l[k]).run P (w.grow δ) = r at *
        cases r with
        | ok n w'' =>
          cases n <;> simp only [Oper.upon] at h1 ⊢ <;> first
            | exact h1
            | exact Calls.mono h1 (fun e w'' he => by cases e <;> exact he)
        | halt x w'' => cases x <;> simp only [Oper.upon] at h1 ⊢ <;> exact h1)
    · exact .inr ⟨h1, a2, w2, h2⟩
  · rename_i hw
    rw [if_neg hw]
    exact h1
theorem wpFlow_of_S' {x : Nat} (hx : decide (0 < x) = true) {listed : Array Bool} {a : Act} {w : World} (rs : List Nat) (hr : Region.ready .any l.toArray listed = rs) (hne : rs.isEmpty = false) (hk : envOk rs l.length = true) (h : ∀ k ∈ rs, wpFlowS P l Q (x - 1) listed k a w) :
    wpFlow P .any l.toArray Q x listed a w := by
  obtain ⟨f, rfl⟩ : ∃ f, x = f + 1 := ⟨x - 1, by have := of_decide_eq_true hx; omega⟩
  exact wpFlow_of_S rs hr hne hk h
theorem wpFlowS_intro {f : Nat} {listed : Array Bool} {k : Nat} {a : Act} {w : World} (h : ∀ δ, wpList P l.toArray (Exit.then (fun a' w'' => Grew (w.grow δ) w'' ∧ wpFlow P .any l.toArray Q f (listed.setIfInBounds k true) a' w'') Q) (pickOps l [k]) a (w.grow δ)) : wpFlowS P l Q f listed k a w := h
theorem wpFlow_one {x : Nat} {listed : Array Bool} {a : Act} {w : World} (k : Nat) (hx : decide (0 < x) = true) (hr : Region.ready .any l.toArray listed = [k]) (hk : envOk [k] l.length = true) (h : wpFlowS P l Q (x - 1) listed k a w) :
    wpFlow P .any l.toArray Q x listed a w := wpFlow_of_S' hx [k] hr rfl hk (by intro i hi; simp only [List.mem_singleton] at hi; subst hi; exact h)
theorem wpFlow_two {x : Nat} {listed : Array Bool} {a : Act} {w : World} (k m : Nat) (hx : decide (0 < x) = true) (hr : Region.ready .any l.toArray listed = [k, m]) (hk : envOk [k, m] l.length = true) (h : wpFlowS P l Q (x - 1) listed k a w) (h2 : wpFlowS P l Q (x - 1) listed m a w) :
    wpFlow P .any l.toArray Q x listed a w := wpFlow_of_S' hx [k, m] hr rfl hk (by
  intro i hi; simp only [List.mem_cons, List.not_mem_nil, or_false] at hi
  rcases hi with rfl | rfl
  · exact h
  · exact h2)
theorem wpFlow_three {x : Nat} {listed : Array Bool} {a : Act} {w : World} (k m n : Nat) (hx : decide (0 < x) = true) (hr : Region.ready .any l.toArray listed = [k, m, n]) (hk : envOk [k, m, n] l.length = true) (h : wpFlowS P l Q (x - 1) listed k a w) (h2 : wpFlowS P l Q (x - 1) listed m a w) (h3 : wpFlowS P l Q (x - 1) listed n a w) :
    wpFlow P .any l.toArray Q x listed a w := wpFlow_of_S' hx [k, m, n] hr rfl hk (by
  intro i hi; simp only [List.mem_cons, List.not_mem_nil, or_false] at hi
  rcases hi with rfl | rfl | rfl
  · exact h
  · exact h2
  · exact h3)
theorem wpFlow_end {x : Nat} {listed : Array Bool} {a : Act} {w : World} (hx : decide (x = 0) = true) (hr : (Region.ready .any l.toArray listed).isEmpty = true) (h : ∀ δ, Q .normal a (w.grow δ)) : wpFlow P .any l.toArray Q x listed a w := by
  obtain rfl := of_decide_eq_true hx
  exact ⟨by simpa using hr, fun w' ⟨δ, h'⟩ => h' ▸ h δ⟩
theorem wp_region_flow {id : Nat} {a : Act} {w : World} (hm : P.follows .mixedOrders = true) (h : ∀ δ, wpFlow P .any l.toArray Q l.length (Array.replicate l.length false) a (w.grow δ)) : (Code.region id l.toArray true).wp P Q a w := by
  refine wp_region_any hm (wpAny_of_flow _ _ _ _ ?_)
  have h1 := h ⟨#[], w.drawn + 1⟩
  rw [← drew_is_grow] at h1
  simpa using h1
end
end Go
/- A row of the call's own, opened and built. No program in sight. -/
namespace Go.Proofs.Ytnhcamklammcdaa
set_option linter.unusedVariables false
set_option linter.unusedSimpArgs false
open Go.RowKit
theorem own_frozen {w : World} {base g n cap : Nat} {e : TypeId} {xs : List Value} (h : OwnR w base e (.slice (some ⟨g, 0, none⟩) n cap) xs) (j : Nat) : w.frozen? ⟨g, j, none⟩ = false := by
  rcases h.2 with ⟨h', _⟩ | ⟨g', cap', cur, h', hb, hg, _⟩
  · simp at h'
  · simp only [Value.slice.injEq, Option.some.injEq, Addr.mk.injEq, and_true, true_and] at h'
    obtain ⟨rfl, _⟩ := h'
    simp [World.frozen?, hg]
theorem own_cell {w : World} {base g n cap : Nat} {e : TypeId} {xs : List Value} (h : OwnR w base e (.slice (some ⟨g, 0, none⟩) n cap) xs) (j : Nat) (hj : j < xs.length) : w.cell? ⟨g, j, none⟩ = some xs[j] := by
  have := h.cells (g := g) rfl j xs[j] (by simp [hj])
  rw [add_off, Nat.zero_add] at this
  exact this
theorem own_stored {w : World} {base g n cap : Nat} {e : TypeId} {xs : List Value} (h : OwnR w base e (.slice (some ⟨g, 0, none⟩) n cap) xs) (j : Nat) (u : Value) :
    OwnR (w.setCell ⟨g, j, none⟩ u) base e (.slice (some ⟨g, 0, none⟩) n cap) (xs.set j u) ∧ w.grownBy (w.setCell ⟨g, j, none⟩ u) (some g) := by
  rcases h.2 with ⟨h', _⟩ | ⟨g', cap', cur, h', hb, hg, hn, _⟩
  · simp at h'
  · have hlen : n = xs.length := by simp only [Value.slice.injEq] at h'; omega
    subst hlen
    have := World.ownsRow.stored h j u
    exact ⟨by unfold OwnR; rw [List.length_set]; exact this.1, this.2⟩
/-- A row of the call's own, opened. -/
theorem own_form {w : World} {base : Nat} {e : TypeId} {v : Value} {xs : List Value} (h : OwnR w base e v xs) (hne : 0 < xs.length) :
    ∃ g cap, v = .slice (some ⟨g, 0, none⟩) xs.length cap ∧ base ≤ g ∧ g < w.heap.size ∧ xs.length ≤ cap ∧ cap ≤ maxLen ∧ ∀ j, j < xs.length → w.cell? ⟨g, j, none⟩ = xs[j]? := by
  have h' := h
  rcases h.2 with ⟨rfl, h0⟩ | ⟨g, cap, cur, rfl, hb, hg, hn, hm, _, _⟩
  · omega
  · exact ⟨g, cap, rfl, hb, (Array.getElem?_eq_some_iff.1 hg).1, hn, hm, fun j hj => by rw [own_cell h' j hj, List.getElem?_eq_getElem hj]⟩
theorem own_alloc (w : World) (base : Nat) (e : TypeId) (xs : List Value) (hb : base ≤ w.heap.size) (hl : xs.length ≤ maxLen) : OwnR (w.alloc (.cells xs.toArray e)) base e (.slice (some ⟨w.heap.size, 0, none⟩) xs.length xs.length) xs :=
  ⟨by simp, .inr ⟨_, _, xs.toArray, rfl, hb, heap_alloc_new w _, Nat.le_refl _, hl, by simp, by simp⟩⟩
theorem own_alloc_g (X : World) (a : Junk) (base : Nat) (e : TypeId) (xs : List Value) (hb : base ≤ X.heap.size) (hl : xs.length ≤ maxLen) : OwnR ((X.grow a).alloc (.cells xs.toArray e)) base e (.slice (some ⟨X.heap.size + a.n, 0, none⟩) xs.length xs.length) xs := by
  have := own_alloc (X.grow a) base e xs (by rw [size_grow]; omega) hl
  rwa [size_grow] at this
end Go.Proofs.Ytnhcamklammcdaa
/- sha.Pad. -/
namespace Go.Proofs.Ytnhcamklammcdaa
set_option linter.unusedVariables false
set_option linter.unusedSimpArgs false
open Go.RowKit
theorem pad_cat (l : List Nat) (p : Option Addr) (c m : Nat) (w : World) (hl : l.length ≤ 1073741824) (hm : m ≤ 1000) (hv : Shows w (.slice p l.length c) (bys l)) :
    Calls Try.prog 56 #[.slice (some ⟨w.heap.size + 1 + 1, 0, none⟩) 3 3]
      (((w.alloc (.cells #[.int .u8 128] 5)).alloc (.cells (bys (zeros m)).toArray 5)).alloc (.cells #[.slice p l.length c, .slice (some ⟨w.heap.size, 0, none⟩) 1 1, .slice (some ⟨w.heap.size + 1, 0, none⟩) m m] 65))
      fun e w' => ∃ g cap, e = .returned (.slice (some ⟨g, 0, none⟩) (l.length + 1 + m) cap) ∧ w.heap.size ≤ g ∧ OwnR w' w.heap.size 5 (.slice (some ⟨g, 0, none⟩) (l.length + 1 + m) cap) (bys (l ++ 128 :: zeros m)) ∧ Grew w w' := by
  have g0 : Grew w (w.alloc (.cells #[.int .u8 128] 5)) := (by repeat (first | with_reducible exact Grew.refl _ | with_reducible apply Grew.alloc | with_reducible apply Grew.grow | with_reducible apply Grew.drew | with_reducible apply Grew.drewN))
  have g1 : Grew (w.alloc (.cells #[.int .u8 128] 5)) ((w.alloc (.cells #[.int .u8 128] 5)).alloc (.cells (bys (zeros m)).toArray 5)) := (by repeat (first | with_reducible exact Grew.refl _ | with_reducible apply Grew.alloc | with_reducible apply Grew.grow | with_reducible apply Grew.drew | with_reducible apply Grew.drewN))
  have s0 := shows_alloc w (bys [128]) 5 1
  have s1 := shows_alloc (w.alloc (.cells #[.int .u8 128] 5)) (bys (zeros m)) 5 m
  have s2 := shows_alloc ((w.alloc (.cells #[.int .u8 128] 5)).alloc (.cells (bys (zeros m)).toArray 5)) [.slice p l.length c, .slice (some ⟨w.heap.size, 0, none⟩) 1 1, .slice (some ⟨w.heap.size + 1, 0, none⟩) m m] 65 3
  have g2 : Grew ((w.alloc (.cells #[.int .u8 128] 5)).alloc (.cells (bys (zeros m)).toArray 5)) (((w.alloc (.cells #[.int .u8 128] 5)).alloc (.cells (bys (zeros m)).toArray 5)).alloc (.cells #[.slice p l.length c, .slice (some ⟨w.heap.size, 0, none⟩) 1 1, .slice (some ⟨w.heap.size + 1, 0, none⟩) m m] 65)) := (by repeat (first | with_reducible exact Grew.refl _ | with_reducible apply Grew.alloc | with_reducible apply Grew.grow | with_reducible apply Grew.drew | with_reducible apply Grew.drewN))
  rw [World.size_alloc, bys_len, zeros_len] at s1
  rw [World.size_alloc, World.size_alloc] at s2
  have hfl : ([l, [128], zeros m] : List (List Nat)).flatten = l ++ 128 :: zeros m := by simp
  refine (concat_w [l, [128], zeros m] _ _ _ rfl s2 ?_ (by rw [hfl]; simp [zeros_len]; omega) (by simp)).mono ?_
  · intro k hk
    have hk : k < 3 := hk
    match k, hk with
    | 0, _ => exact hv.grew (g0.trans (g1.trans g2))
    | 1, _ => exact s0.grew (g1.trans g2)
    | 2, _ => exact s1.grew g2
  · rintro e w' ⟨v, rfl, ho, hg⟩
    rw [hfl] at ho
    have ho' := ho.base (base' := w.heap.size) (by simp; omega)
    obtain ⟨q, cap, rfl⟩ := shows_form ho.shows
    have hlen : (bys (l ++ 128 :: zeros m)).length = l.length + 1 + m := by rw [bys_len]; simp [zeros_len]; omega
    rw [hlen] at ho ho' ⊢
    rcases ho'.2 with ⟨h, h0⟩ | ⟨g, cap', cur, h, hb, _⟩
    · rw [hlen] at h0; omega
    · rw [hlen] at h
      simp only [Value.slice.injEq] at h
      obtain ⟨rfl, _, rfl⟩ := h
      exact ⟨g, _, rfl, hb, ho', (g0.trans (g1.trans g2)).trans hg⟩
/-- The bytes, with how many bits they have, of which 'k' bytes are told. -/
def padk (l : List Nat) (m : Nat) : Nat → List Nat
  | 0 => l ++ 128 :: zeros m
  | k + 1 => (padk l m k).set (l.length + 1 + m - 1 - k) (8 * l.length / 2 ^ (8 * k) % 256)
theorem padk_len (l : List Nat) (m : Nat) : ∀ k, (padk l m k).length = l.length + 1 + m
  | 0 => by simp [padk, zeros_len]; omega
  | k + 1 => by unfold padk; rw [List.length_set, padk_len l m k]
set_option maxRecDepth 100000 in
set_option maxHeartbeats 1600000 in
theorem pad_w (l : List Nat) (v : Value) (w : World) (hl : l.length ≤ 1073741824) (hv : Shows w v (bys l)) :
    Calls Try.prog 53 #[v] w fun e w' => ∃ v' m, m = (64 - (l.length + 9) % 64) % 64 + 8 ∧ e = .returned v' ∧ OwnR w' w.heap.size 5 v' (bys (padk l m 8)) ∧ Grew w w' := by
  obtain ⟨p, c, rfl⟩ := shows_form hv
  rw [bys_len] at hv ⊢
  have HV := Lib.hid hv
  clear hv
  obtain ⟨nz, hnz⟩ : ∃ nz : Nat, (64 - ((l.length : Int) + 1 + 8) % 64) % 64 = (nz : Int) := ⟨((64 - ((l.length : Int) + 1 + 8) % 64) % 64).toNat, by omega⟩
  have hnz2 : nz < 64 := by omega
  obtain ⟨m, hm⟩ : ∃ m : Nat, (nz : Int) + 8 = (m : Int) := ⟨nz + 8, by omega⟩
  have hm2 : m ≤ 1099511627776 := by omega
  have HM := Lib.hid (show m = (64 - (l.length + 9) % 64) % 64 + 8 by omega)
  go_enter Try.func53, Try.ntmps53
  go_wp2_with (go_at_call 56; refine stop_of ?_)
  unfold Stop
  refine (pad_cat l p c m w hl (by omega) HV.out).mono ?_
  rintro e w' ⟨g, cap, rfl, hg, ho, hgr⟩
  simp only []
  go_wp2
  obtain ⟨N, hN⟩ : ∃ N, l.length + 1 + m = N := ⟨_, rfl⟩
  rw [hN] at ho ⊢
  have HO := Lib.hid ho
  have HG := Lib.hid hgr
  clear ho hgr hnz hm HV
  have hm8 : 8 ≤ m := by have := HM.out; omega
  go_loopw [20] (fun n wr => ∃ k : Nat, k ≤ 8 ∧ n = .int .i64 k ∧ OwnR wr w.heap.size 5 (.slice (some ⟨g, 0, none⟩) N cap) (bys (padk l m k)) ∧ Grew w wr) (fun n _ => 8 - (intOf n).toNat)
  case atStart => exact ⟨0, by omega, rfl, HO.out, HG.out⟩
  case round =>
    obtain ⟨k, hk, rfl, ho, hg2⟩ := hrel
    by_cases hn : k < 8
    · have hlt : (k : Int) < 8 := by omega
      have hpl := padk_len l m k
      rw [hN] at hpl
      obtain ⟨q, hq⟩ : ∃ q, N - 1 - k = q := ⟨_, rfl⟩
      have hq1 : (N : Int) - 1 - (k : Int) = (q : Int) := by omega
      have hq2 : q < N := by omega
      have hq3 : (q : Int) < (N : Int) := by omega
      have hfz := own_frozen ho q
      have hce := own_cell ho q (by rw [bys_len, hpl]; exact hq2)
      have hst := fun u => own_stored ho q u
      generalize (bys (padk l m k))[q]'(by rw [bys_len, hpl]; exact hq2) = old at hce
      go_wp2
      have hnum : (8 * (l.length : Int) / 2 ^ (8 * k) % 256) = ((8 * l.length / 2 ^ (8 * k) % 256 : Nat) : Int) := by
        rw [Int.natCast_emod, Int.natCast_ediv, Int.natCast_mul, Int.natCast_pow]; rfl
      have hb : bys (padk l m (k + 1)) = (bys (padk l m k)).set q (.int .u8 (8 * (l.length : Int) / 2 ^ (8 * k) % 256)) := by
        rw [hnum]
        unfold bys
        rw [← List.map_set]
        conv => lhs; unfold padk
        rw [hN, hq]
      refine ⟨⟨k + 1, by omega, by go_num, by rw [hb]; exact (hst _).1, Grew.grown hg2 (hst _).2 fun j hj => (by cases hj; exact hg)⟩, by simp only [intOf]; omega⟩
    · obtain rfl : k = 8 := by omega
      clear hk hn
      go_wp2
      go_ret
      exact ⟨_, m, HM.out, rfl, ho, hg2⟩
/-- The lowest 'k' bytes of a number, the greatest first. -/
def tailk (n : Nat) : Nat → List Nat
  | 0 => []
  | k + 1 => (n / 2 ^ (8 * k) % 256) :: tailk n k
theorem tailk_len (n : Nat) : ∀ k, (tailk n k).length = k
  | 0 => rfl
  | k + 1 => by simp [tailk, tailk_len n k]
theorem zeros_succ (n : Nat) : zeros (n + 1) = zeros n ++ [0] := by simp [zeros, List.replicate_succ']
theorem set_mid (a b : List Nat) (x y : Nat) : (a ++ x :: b).set a.length y = a ++ y :: b := by simp
theorem padk_eq (l : List Nat) (m : Nat) : ∀ k, k ≤ m → padk l m k = l ++ 128 :: (zeros (m - k) ++ tailk (8 * l.length) k)
  | 0, _ => by simp [padk, tailk]
  | k + 1, h => by
    unfold padk tailk
    rw [padk_eq l m k (by omega)]
    obtain ⟨j, hj⟩ : ∃ j, m - k = j + 1 := ⟨m - k - 1, by omega⟩
    rw [hj, zeros_succ, show m - (k + 1) = j by omega]
    have e : l.length + 1 + m - 1 - k = (l ++ 128 :: zeros j).length := by simp [zeros_len]; omega
    have := set_mid (l ++ 128 :: zeros j) (tailk (8 * l.length) k) 0 (8 * l.length / 2 ^ (8 * k) % 256)
    rw [e]
    rw [List.append_assoc, List.append_assoc] at this
    simp only [List.append_assoc, List.cons_append, List.nil_append, List.singleton_append] at this ⊢
    exact this
/-- What bytes become. -/
def pad (l : List Nat) : List Nat := l ++ 128 :: (zeros ((64 - (l.length + 9) % 64) % 64) ++ tailk (8 * l.length) 8)
theorem pad_len (l : List Nat) : (pad l).length = l.length + 9 + (64 - (l.length + 9) % 64) % 64 := by simp [pad, zeros_len, tailk_len]; omega
theorem tailk_lt (n : Nat) : ∀ k, ∀ c ∈ tailk n k, c < 256
  | 0 => by simp [tailk]
  | k + 1 => by
    intro c hc
    simp only [tailk, List.mem_cons] at hc
    rcases hc with rfl | hc
    · exact Nat.mod_lt _ (by omega)
    · exact tailk_lt n k c hc
theorem pad_lt (l : List Nat) (h : ∀ c ∈ l, c < 256) : ∀ c ∈ pad l, c < 256 := by
  intro c hc
  simp only [pad, List.mem_append, List.mem_cons, zeros, List.mem_replicate] at hc
  rcases hc with hc | rfl | ⟨_, rfl⟩ | hc
  · exact h c hc
  · omega
  · omega
  · exact tailk_lt _ _ c hc
theorem pad_w' (l : List Nat) (v : Value) (w : World) (hl : l.length ≤ 1073741824) (hv : Shows w v (bys l)) :
    Calls Try.prog 53 #[v] w fun e w' => ∃ v', e = .returned v' ∧ OwnR w' w.heap.size 5 v' (bys (pad l)) ∧ Grew w w' := by
  refine (pad_w l v w hl hv).mono ?_
  rintro e w' ⟨v', m, hm, rfl, ho, hg⟩
  refine ⟨v', rfl, ?_, hg⟩
  rw [padk_eq l m 8 (by omega), hm, Nat.add_sub_cancel] at ho
  exact ho
end Go.Proofs.Ytnhcamklammcdaa
/- slices.Chunk of bytes, by 64: what its closure does, and what it hands out. -/
namespace Go.Proofs.Ytnhcamklammcdaa
set_option linter.unusedVariables false
set_option linter.unusedSimpArgs false
open Go.RowKit Go.Shelf
attribute [local go_sem] Oper.semAt_some
/-- What lay ahead of 'n1', but for block 'g', lies as it lay. -/
def KeptBut (g n1 : Nat) (W W' : World) : Prop := ∀ k, k < n1 → k ≠ g → W'.heap[k]? = W.heap[k]?
theorem KeptBut.refl (g n1 : Nat) (W : World) : KeptBut g n1 W W := fun _ _ _ => rfl
theorem KeptBut.trans {g n1 : Nat} {A B C : World} (h : KeptBut g n1 A B) (k : KeptBut g n1 B C) : KeptBut g n1 A C := fun i h1 h2 => (k i h1 h2).trans (h i h1 h2)
theorem KeptBut.cell {g n1 : Nat} {A B : World} (h : KeptBut g n1 A B) {p : Addr} {v : Value} (h1 : p.block < n1) (h2 : p.block ≠ g) (hc : A.cell? p = some v) : B.cell? p = some v :=
  (World.cell?_of_block (h p.block h1 h2)).trans hc
set_option maxRecDepth 100000 in
set_option maxHeartbeats 2000000 in
theorem chunk1_in (F : Fence) (n : Nat) (hf : F.fn 67) (hro : F.round = none) (hn : 1 ≤ n) (l Bs Bn g n1 b off K cap : Nat) (hK : K ≤ 100000000) (hb : b < n1) (hbg : b ≠ g) (hs : Bs < n1) (hsg : Bs ≠ g) (ht : Bn < n1) (htg : Bn ≠ g)
    (J Jx : List Nat → World → Prop)
    (hY : ∀ pre x W, J pre W → pre.length < K → x < K → YieldAt F (n - 1) Try.prog l #[.slice (some ⟨b, off + 64 * x, none⟩) 64 64] W fun e W' =>
      (e = .returned (.bool true) ∧ J (pre ++ [x]) W' ∧ KeptBut g n1 W W') ∨ (e = .returned (.bool false) ∧ Jx (pre ++ [x]) W'))
    (W : World) (cs : W.cell? ⟨Bs, 0, none⟩ = some (.slice (some ⟨b, off, none⟩) (64 * K) cap)) (cn : W.cell? ⟨Bn, 0, none⟩ = some (.int .i64 64)) (hcap : 64 * K ≤ cap) (hcap2 : cap ≤ maxLen) (hJ : AbidesFrom W.heap.size J) (h0 : J [] W) :
    CallsIn F n Try.prog 67 #[.func (.yield l) #[] #[], .pointer (some ⟨Bs, 0, none⟩), .pointer (some ⟨Bn, 0, none⟩)] W fun e W' => (∃ v, e = .returned v) ∧
      ((∃ ys, ys = List.range K ∧ J ys W') ∨ (∃ pre, True ∧ Jx pre W')) := by
  obtain ⟨L, hL⟩ : ∃ L, 64 * K = L := ⟨_, rfl⟩
  rw [hL] at cs hcap
  simp only [maxLen] at hcap2
  refine callsIn_of_wp Try.func67 rfl hf ?_ hro
  simp only [Try.ntmps67, List.size_toArray, List.length_cons, List.length_nil, Nat.reduceAdd, Nat.reduceSub, Array.replicate_succ, Array.replicate_zero, List.push_toArray, List.append_toArray, List.nil_append, List.cons_append]
  have C1 := Lib.hid cs
  have C2 := Lib.hid cn
  have HY := Lib.hid hY
  clear cs cn hY
  gi_wp2
  gi_loopw [4] (fun i wr => ∃ k q : Nat, k ≤ K ∧ 64 * k = q ∧ i = .int .i64 (q : Nat) ∧ J (List.range k) wr ∧ KeptBut g n1 W wr) (fun i _ => L - (intOf i).toNat)
  case atStart => exact ⟨0, 0, by omega, rfl, rfl, h0, KeptBut.refl _ _ _⟩
  case round =>
    obtain ⟨k, q, hk, hq, rfl, hJs, hkp⟩ := hrel
    have c1 := hkp.cell (p := ⟨Bs, 0, none⟩) hs hsg C1.out
    have c2 := hkp.cell (p := ⟨Bn, 0, none⟩) ht htg C2.out
    by_cases hlt : k < K
    · have hJd : J (List.range k) wr.drew := hJ _ _ _ none hJs ⟨rfl, rfl, rfl, Nat.le_refl _, fun _ _ _ => rfl⟩ (by intro r e; cases e)
      obtain ⟨fn, tmps, assign, body, hy, hR⟩ := HY.out _ k wr.drew hJd (by rw [List.length_range]; exact hlt) hlt
      rw [hq] at hy
      have h1 : (q : Int) < (L : Int) := by omega
      have h2 : q ≤ L := by omega
      have h3 : 64 ≤ L - q := by omega
      have HR := Lib.hid hR
      have HJ := Lib.hid hJs
      have HP := Lib.hid hkp
      have hcq : ¬ (cap = q) := by omega
      clear hR hJs hkp hJd
      have hmx : Try.prog.follows .mixedOrders = true := by kernel_rfl
      gi_wp2
      gi_region_o
      all_goals gi_wp2
      all_goals
        refine HR.out.mono ?_
        rintro e W3 (⟨rfl, hJ3, hk3⟩ | ⟨rfl, hJx3⟩)
      all_goals first
        | (have hk4 : KeptBut g n1 W W3 := fun i i1 i2 => (hk3 i i1 i2).trans (HP.out i i1 i2)
           have c3 := hk4.cell (p := ⟨Bs, 0, none⟩) hs hsg C1.out
           have c4 := hk4.cell (p := ⟨Bn, 0, none⟩) ht htg C2.out
           have hqw : (q : Int) + 64 < 9223372036854775808 := by omega
           clear c1 c2
           gi_wp2
           go_roundw
           case rel => exact ⟨k + 1, q + 64, by omega, by omega, by go_num, by rw [List.range_succ]; exact hJ3, hk4⟩
           case measure => simp only [intOf]; omega)
        | (gi_wp2
           refine bodyPost_ret (results_none rfl _ _ _) rfl ?_
           exact ⟨⟨_, rfl⟩, .inr ⟨_, trivial, hJx3⟩⟩)
    · have hqL : ¬ ((q : Int) < (L : Int)) := by omega
      have e1 : k = K := by omega
      subst e1
      clear hq hL hK hk hlt HY
      gi_wp2
      go_end0
      exact ⟨⟨_, rfl⟩, .inl hJs⟩
end Go.Proofs.Ytnhcamklammcdaa
/- slices.Chunk of bytes, by 64: it hands back what hands out the parts, one by one. -/
namespace Go.Proofs.Ytnhcamklammcdaa
set_option linter.unusedVariables false
set_option linter.unusedSimpArgs false
open Go.RowKit Go.Shelf
attribute [local go_sem] Oper.semAt_some
set_option maxHeartbeats 1000000 in
theorem chunk_in (F : Fence) (n : Nat) (hf : F.fn 52) (hro : F.round = none) (a : Option Addr) (len cap : Nat) (w : World) :
    CallsIn F n Try.prog 52 #[.slice a len cap, .int .i64 64] w fun e w' => e = .returned (.func (.func 67) #[] #[.pointer (some ⟨w.heap.size, 0, none⟩), .pointer (some ⟨w.heap.size + 1, 0, none⟩)]) ∧
      w' = (w.alloc (.cells #[.slice a len cap] 65)).alloc (.cells #[.int .i64 64] 3) := by
  refine callsIn_of_wp Try.func52 rfl hf ?_ hro
  simp only [Try.ntmps52, List.size_toArray, List.length_cons, List.length_nil, Nat.reduceAdd, Nat.reduceSub, Array.replicate_succ, Array.replicate_zero, List.push_toArray, List.append_toArray, List.nil_append, List.cons_append]
  gi_wp2
  go_ret
  exact ⟨rfl, rfl⟩
/-- A part's number. -/
abbrev Part (K : Nat) := { c : Nat // c < K }
theorem chunk_stops (F : Fence) (n : Nat) (hf : F.fn 67) (hro : F.round = none) (hn : 1 ≤ n) (Bs Bn g n1 b off K cap : Nat) (hK : K ≤ 100000000) (hb : b < n1) (hbg : b ≠ g) (hs : Bs < n1) (hsg : Bs ≠ g) (ht : Bn < n1) (htg : Bn ≠ g)
    (w : World) (hn1 : n1 ≤ w.heap.size) (cs : w.cell? ⟨Bs, 0, none⟩ = some (.slice (some ⟨b, off, none⟩) (64 * K) cap)) (cn : w.cell? ⟨Bn, 0, none⟩ = some (.int .i64 64)) (hcap : 64 * K ≤ cap) (hcap2 : cap ≤ maxLen) :
    SeqStopsK F n Try.prog 67 #[.pointer (some ⟨Bs, 0, none⟩), .pointer (some ⟨Bn, 0, none⟩)] (fun x : Part K => #[Value.slice (some ⟨b, off + 64 * x.1, none⟩) 64 64]) (KeptBut g n1)
      (fun ys => ys.map (·.1) = List.range K) (fun _ => True) K w := fun l J Jx W hW hJ hJx hY h0 => by
  have cs' := (hW.cell (p := ⟨Bs, 0, none⟩) (Nat.lt_of_lt_of_le hs hn1)).trans cs
  have cn' := (hW.cell (p := ⟨Bn, 0, none⟩) (Nat.lt_of_lt_of_le ht hn1)).trans cn
  refine (chunk1_in F n hf hro hn l Bs Bn g n1 b off K cap hK hb hbg hs hsg ht htg (fun ys W => ∃ zs : List (Part K), zs.map (·.1) = ys ∧ J zs W) (fun ys W => ∃ zs : List (Part K), zs.map (·.1) = ys ∧ Jx zs W) ?_ W cs' cn' hcap hcap2 ?_ ⟨[], rfl, h0⟩).mono ?_
  · rintro pre x W1 ⟨zs, rfl, hJz⟩ hlen hx
    obtain ⟨fn, tmps, assign, body, hy, hR⟩ := hY zs ⟨x, hx⟩ W1 hJz (by simpa using hlen)
    refine ⟨fn, tmps, assign, body, hy, hR.mono ?_⟩
    rintro e W2 (⟨rfl, h1, h2⟩ | ⟨rfl, h1⟩)
    · exact .inl ⟨rfl, ⟨_, by simp, h1⟩, h2⟩
    · exact .inr ⟨rfl, ⟨_, by simp, h1⟩⟩
  · rintro s A B row ⟨zs, e, hs⟩ hg hr
    exact ⟨zs, e, hJ zs A B row hs hg hr⟩
  · rintro e W' ⟨he, ⟨ys, rfl, zs, e1, h1⟩ | ⟨pre, _, zs, e1, h1⟩⟩
    · exact ⟨he, .inl ⟨zs, e1, h1⟩⟩
    · exact ⟨he, .inr ⟨zs, trivial, h1⟩⟩
end Go.Proofs.Ytnhcamklammcdaa
/- The sum of bytes, as numbers. -/
namespace Go.Proofs.Ytnhcamklammcdaa
set_option linter.unusedVariables false
set_option linter.unusedSimpArgs false
/-- The first words. -/
def words0 : List (BitVec 32) := [0x6a09e667, 0xbb67ae85, 0x3c6ef372, 0xa54ff53a, 0x510e527f, 0x9b05688c, 0x1f83d9ab, 0x5be0cd19]
/-- The words behind 'k' parts. -/
def sumk (p : List Nat) : Nat → List (BitVec 32)
  | 0 => words0
  | k + 1 => compress (sumk p k) (p.drop (64 * k))
def wordByte (s : List (BitVec 32)) (i : Nat) : Nat := (wordAt s (i / 4)).toNat / 2 ^ (24 - 8 * (i % 4)) % 256
def outk (s : List (BitVec 32)) (k : Nat) : List Nat := (List.range 32).map fun i => if i < k then wordByte s i else 0
def sum (l : List Nat) : List Nat := outk (sumk (pad l) ((pad l).length / 64)) 32
theorem outk_len (s : List (BitVec 32)) (k : Nat) : (outk s k).length = 32 := by simp [outk]
theorem outk_0 (s : List (BitVec 32)) : outk s 0 = id0 := by
  unfold outk id0
  apply List.ext_getElem
  · simp
  · intro i h1 h2
    simp only [List.getElem_map, List.getElem_replicate, List.getElem_range]
    rw [if_neg (by omega)]
theorem outk_set (s : List (BitVec 32)) (k : Nat) : (outk s k).set k (wordByte s k) = outk s (k + 1) := by
  apply List.ext_getElem
  · simp [outk]
  · intro i h1 h2
    simp only [outk, List.getElem_set, List.getElem_map, List.getElem_range]
    split
    · subst_vars; simp
    · split
      · rw [if_pos (by omega)]
      · rw [if_neg (by omega)]
theorem wordByte_lt (s : List (BitVec 32)) (i : Nat) : wordByte s i < 256 := Nat.mod_lt _ (by omega)
theorem outk_lt (s : List (BitVec 32)) (k : Nat) : ∀ c ∈ outk s k, c < 256 := by
  intro c hc
  obtain ⟨i, _, rfl⟩ := List.mem_map.1 hc
  split
  · exact wordByte_lt s i
  · omega
theorem sum_len (l : List Nat) : (sum l).length = 32 := outk_len _ _
theorem sum_lt (l : List Nat) : ∀ c ∈ sum l, c < 256 := outk_lt _ _
theorem pad_mod (l : List Nat) : (pad l).length % 64 = 0 := by rw [pad_len]; omega
/-- The words behind some parts, in that order. -/
def sumOf (p : List Nat) (ks : List Nat) : List (BitVec 32) := ks.foldl (fun s k => compress s (p.drop (64 * k))) words0
theorem sumOf_snoc (p : List Nat) (ks : List Nat) (k : Nat) : sumOf p (ks ++ [k]) = compress (sumOf p ks) (p.drop (64 * k)) := by simp [sumOf]
theorem sumOf_range (p : List Nat) : ∀ k, sumOf p (List.range k) = sumk p k
  | 0 => rfl
  | k + 1 => by rw [List.range_succ, sumOf_snoc, sumOf_range p k]; rfl
theorem sumOf_len (p : List Nat) (ks : List Nat) : (sumOf p ks).length = 8 := by
  rcases List.eq_nil_or_concat ks with rfl | ⟨ini, x, rfl⟩
  · rfl
  · rw [List.concat_eq_append, sumOf_snoc]; exact compress_len _ _
theorem byteAt_drop (l : List Nat) (k j : Nat) : byteAt (l.drop k) j = byteAt l (k + j) := by simp [byteAt, List.getD]
end Go.Proofs.Ytnhcamklammcdaa
/- sha.Sum. -/
namespace Go.Proofs.Ytnhcamklammcdaa
set_option linter.unusedVariables false
set_option linter.unusedSimpArgs false
open Go.RowKit Go.Shelf
set_option maxRecDepth 100000
attribute [local go_sem] Oper.semAt_some
theorem pad_o (l : List Nat) (v : Value) (w : World) (hl : l.length ≤ 1073741824) (hv : Shows w v (bys l)) :
    Calls Try.prog 53 #[v] w fun e w' => ∃ b cap K, e = .returned (.slice (some ⟨b, 0, none⟩) (64 * K) cap) ∧ 64 * K = (pad l).length ∧ 64 * K ≤ cap ∧ cap ≤ maxLen ∧ w.heap.size ≤ b ∧ b < w'.heap.size ∧
      (∀ j, j < 64 * K → w'.cell? ⟨b, 0 + j, none⟩ = some (.int .u8 (byteAt (pad l) j : Nat))) ∧ Grew w w' := by
  refine (pad_w' l v w hl hv).mono ?_
  rintro e w' ⟨v', rfl, ho, hg⟩
  obtain ⟨K, hK⟩ : ∃ K, (pad l).length = 64 * K := ⟨(pad l).length / 64, by have := pad_mod l; omega⟩
  have hp := pad_len l
  rcases ho.2 with ⟨rfl, h0⟩ | ⟨b, cap, cur, rfl, hb, hh, hn, hm, hs, ht⟩
  · rw [bys_len] at h0; omega
  · rw [bys_len, hK] at ho hn ⊢
    refine ⟨b, cap, K, rfl, rfl, hn, hm, hb, (Array.getElem?_eq_some_iff.1 hh).1, fun j hj => ?_, hg⟩
    rw [Nat.zero_add, own_cell ho j (by rw [bys_len]; omega)]
    simp [bys, byteAt_eq _ j (show j < (pad l).length by omega)]
theorem own_grew {β : Type} (B : Nat) (f : β → World) (hB : ∀ s, (f s).heap.size = B) : OwnFrom B (fun s W => Grew (f s) W) := fun s W W' row hs hg hr => by
  have hb : Below (f s).heap.size (f s) W := hs.below
  exact Grew.of_below (hb.grown hg hb.size (fun k e => by rw [hB]; exact (hr k e).1))
theorem heap_setRow_other (w : World) (g : Nat) (cs : Array Value) (k : Nat) (h : k ≠ g) : (w.setRow g cs).heap[k]? = w.heap[k]? := by
  unfold World.setRow
  simp [Array.getElem?_modify, Ne.symm h]
/-- One part goes in. -/
theorem part_step (A W W' : World) (g B : Nat) (v v' : Array Value) (hg : g < A.heap.size) (hB : B = A.heap.size) (hf : A.rowFree g = true) (h : Grew (A.setRow g v) W) (h' : Grew (W.setRow g v') W') :
    KeepsFrom B W W' ∧ KeptBut g B W W' ∧ Grew (A.setRow g v') W' := by
  subst hB
  have hs : (A.setRow g v).heap.size = A.heap.size := setRow_size _ _ _
  have hW : g < W.heap.size := Nat.lt_of_lt_of_le hg (hs ▸ h.size)
  have key : ∀ k, k < W.heap.size → k ≠ g → W'.heap[k]? = W.heap[k]? := fun k hk hne => by
    rw [h'.heap (by rw [setRow_size]; exact hk), heap_setRow_other _ _ _ _ hne]
  refine ⟨⟨by have := h'.size; rw [setRow_size] at this; exact this, fun k o hk h0 ho => ?_⟩, fun k hk hne => key k (Nat.lt_of_lt_of_le hk (hs ▸ h.size)) hne, ?_⟩
  · rw [key k (Array.getElem?_eq_some_iff.1 h0).1 (by omega)]; exact h0
  · have h2 := Grew.setRow_old h g v' (by rw [hs]; exact hg)
    rw [setRow_setRow] at h2
    exact h2.trans h'
set_option maxRecDepth 100000 in
set_option maxHeartbeats 4000000 in
theorem sum_in (F : Fence) (n : Nat) (l : List Nat) (hF : F = .wide) (hn : 3 ≤ n) (v : Value) (w : World) (hl : l.length ≤ 1073741824) (hb : ∀ c ∈ l, c < 256) (hv : Shows w v (bys l)) :
    CallsIn F n Try.prog 38 #[v] w fun e w' => e = .returned (.agg (iv (sum l))) ∧ Grew w w' := by
  have h1 : 1 ≤ n := by omega
  have HV := Lib.hid hv
  clear hv
  refine callsIn_of_wp_marks Try.func38 rfl (by subst hF; trivial) ?_ (by subst hF; rfl)
  simp only [Try.ntmps38, List.size_toArray, List.length_cons, List.length_nil, Nat.reduceAdd, Nat.reduceSub, Array.replicate_succ, Array.replicate_zero, List.push_toArray, List.append_toArray, List.nil_append, List.cons_append]
  gi_wp2
  obtain ⟨w1, hw1⟩ : ∃ w1, ((w.alloc (Obj.cells (iv id0) 24)).alloc (Obj.cells (uv words0) 82)).alloc (Obj.cells #[.pointer (some ⟨w.heap.size + 1, 0, none⟩)] 80) = w1 := ⟨_, rfl⟩
  have hgw : Grew w w1 := by rw [← hw1]; exact (by repeat (first | with_reducible exact Grew.refl _ | with_reducible apply Grew.alloc | with_reducible apply Grew.grow | with_reducible apply Grew.drew | with_reducible apply Grew.drewN))
  have hsz : w1.heap.size = w.heap.size + 1 + 1 + 1 := by rw [← hw1]; simp
  have r1 : w1.rowAt w.heap.size = iv id0 ∧ w1.rowFree w.heap.size = true := by rw [← hw1]; constructor <;> simp [go_sem]
  have r2 : w1.rowAt (w.heap.size + 1) = uv words0 ∧ w1.rowFree (w.heap.size + 1) = true := by rw [← hw1]; constructor <;> simp [go_sem]
  have r3 : w1.cell? ⟨w.heap.size + 1 + 1, 0, none⟩ = some (.pointer (some ⟨w.heap.size + 1, 0, none⟩)) := by rw [← hw1]; simp [go_sem]
  have hwe : ((w.alloc (Obj.cells (iv id0) 24)).alloc (Obj.cells #[.int .u32 1779033703, .int .u32 3144134277, .int .u32 1013904242, .int .u32 2773480762, .int .u32 1359893119, .int .u32 2600822924, .int .u32 528734635, .int .u32 1541459225] 82)).alloc (Obj.cells #[.pointer (some ⟨w.heap.size + 1, 0, none⟩)] 80) = w1 := by
    rw [← hw1]; rfl
  rw [hwe]
  clear hw1 hwe
  refine ⟨trivial, (callsIn_wide.2 (pad_o l v w1 hl (HV.out.grew hgw))).mono ?_⟩
  rintro e w2 ⟨b, cap, K, rfl, hKl, hKc, hcap, hb1, hb2, hcs, hg12⟩
  obtain ⟨N, hN⟩ : ∃ N, 64 * K = N := ⟨_, rfl⟩
  have hg2 := hgw.trans hg12
  have hK : K ≤ 100000000 := by have := pad_len l; omega
  have q1 : w2.rowAt w.heap.size = iv id0 := by rw [Grew.rowAt hg12 _ (by omega)]; exact r1.1
  have q2 : w2.rowFree w.heap.size = true := by rw [Grew.rowFree hg12 _ (by omega)]; exact r1.2
  have q3 : w2.rowAt (w.heap.size + 1) = uv words0 := by rw [Grew.rowAt hg12 _ (by omega)]; exact r2.1
  have q4 : w2.rowFree (w.heap.size + 1) = true := by rw [Grew.rowFree hg12 _ (by omega)]; exact r2.2
  have q5 := hg12.cell r3
  have hs12 := hg12.size
  obtain ⟨r0, hr0⟩ : ∃ r0, w.heap.size = r0 := ⟨_, rfl⟩
  have HCS := Lib.hid hcs
  have HK := Lib.hid (And.intro hN (And.intro hKl hKc))
  rw [hN]
  clear hKl hKc hN
  have HG2 := Lib.hid hg2
  have Q := Lib.hid (And.intro q1 (And.intro q2 (And.intro q3 (And.intro q4 q5))))
  clear r1 r2 r3 q1 q2 q3 q4 q5 hcs hg2 hg12 hgw
  gi_wp2
  refine ⟨trivial, (chunk_in .wide (n - 1) trivial rfl _ _ _ _).mono ?_⟩
  rintro e w3 ⟨rfl, hw3⟩
  obtain ⟨q1, q2, q3, q4, q5⟩ := Q.out
  have hs3 : w3.heap.size = w2.heap.size + 1 + 1 := by rw [hw3]; simp
  have hg23 : Grew w2 w3 := by rw [hw3]; exact (by repeat (first | with_reducible exact Grew.refl _ | with_reducible apply Grew.alloc | with_reducible apply Grew.grow | with_reducible apply Grew.drew | with_reducible apply Grew.drewN))
  have hg3 := Lib.hid (HG2.out.trans hg23)
  have c1 : w3.cell? ⟨w2.heap.size, 0, none⟩ = some (.slice (some ⟨b, 0, none⟩) N cap) := by rw [hw3]; simp [go_sem]
  have c2 : w3.cell? ⟨w2.heap.size + 1, 0, none⟩ = some (.int .i64 64) := by rw [hw3]; simp [go_sem]
  have HCS3 := Lib.hid (fun j hj => hg23.cell (HCS.out j hj))
  have p1 : w3.rowAt w.heap.size = iv id0 := by rw [Grew.rowAt hg23 _ (by omega)]; exact q1
  have p2 : w3.rowFree w.heap.size = true := by rw [Grew.rowFree hg23 _ (by omega)]; exact q2
  have p3 : w3.rowAt (w.heap.size + 1) = uv words0 := by rw [Grew.rowAt hg23 _ (by omega)]; exact q3
  have p4 : w3.rowFree (w.heap.size + 1) = true := by rw [Grew.rowFree hg23 _ (by omega)]; exact q4
  have p5 := hg23.cell q5
  clear hw3 hg23 q1 q2 q3 q4 q5 Q HCS HG2
  rw [hr0] at p1 p2 p3 p4 p5 hsz
  have HR0 := Lib.hid hr0
  clear hr0
  gi_wp2
  refine wpIn_rangeFunc_ownG (by subst hF; rfl) h1 (gf := 67) (lb := #[.pointer (some ⟨w2.heap.size, 0, none⟩), .pointer (some ⟨w2.heap.size + 1, 0, none⟩)]) rfl (by subst hF; trivial) (enters_of Try.func67 (by kernel_rfl) rfl)
    (chunk_stops F (n - 1) (by subst hF; trivial) (by subst hF; rfl) (by omega) w2.heap.size (w2.heap.size + 1) (r0 + 1) w3.heap.size b 0 K cap hK (by omega) (by omega) (by omega) (by omega) (by omega) (by omega) w3 (Nat.le_refl _) (by rw [HK.out.1]; exact c1) c2 HK.out.2.2 hcap)
    (fun h k => h.trans k) (fun W l o o' hl h _ _ k hk hne => World.putObj_heap_other (by omega)) (Below.refl _ _) (fun _ => rfl)
    (fun pre W => Grew (w3.setRow (r0 + 1) (uv (sumOf (pad l) (pre.map (·.1))))) W) (fun _ _ _ => False) (own_grew _ _ (fun _ => setRow_size _ _ _)) (fun _ _ _ _ _ hs _ _ => hs)
    (by rw [show sumOf (pad l) (List.map (·.1) ([] : List (Part K))) = words0 from rfl, ← p3, setRow_same' _ _ p4]; exact Grew.refl _)
    (fun x => { tmps := #[v, undef, .pointer (some ⟨r0, 0, none⟩), .pointer (some ⟨r0 + 1 + 1, 0, none⟩), .slice (some ⟨b, 64 * x.1, none⟩) 64 64, undef, undef, .agg #[.int .u32 1779033703, .int .u32 3144134277, .int .u32 1013904242, .int .u32 2773480762, .int .u32 1359893119, .int .u32 2600822924, .int .u32 528734635, .int .u32 1541459225], .pointer (some ⟨r0 + 1, 0, none⟩), v, .slice (some ⟨b, 0, none⟩) N cap, .func (.func 67) #[] #[.pointer (some ⟨w2.heap.size, 0, none⟩), .pointer (some ⟨w2.heap.size + 1, 0, none⟩)], .slice (some ⟨b, 64 * x.1, none⟩) 64 64, undef, undef, undef, undef, undef, undef, undef, undef, undef, undef, undef, undef, undef, undef, undef, undef, undef, undef, undef, undef, undef, undef], defers := [] }) ?assign ?body ?done ?stop
  case assign =>
    intro l x W K hK
    gi_wp2
    exact hK
  case body =>
    rintro lb pre x W hI hlen
    subst hF
    obtain ⟨S, hS⟩ : ∃ S, sumOf (pad l) (pre.map (·.1)) = S := ⟨_, rfl⟩
    rw [hS] at hI
    have i1 : W.cell? ⟨r0 + 1 + 1, 0, none⟩ = some (.pointer (some ⟨r0 + 1, 0, none⟩)) := hI.cell (by rw [cell_setRow_other _ _ _ _ (by simp)]; exact p5)
    have i2 : W.rowAt (r0 + 1) = uv S := by rw [Grew.rowAt hI _ (by rw [setRow_size]; omega), rowAt_setRow_free _ _ _ p4]
    have i3 : W.rowFree (r0 + 1) = true := by rw [Grew.rowFree hI _ (by rw [setRow_size]; omega), rowFree_setRow_free _ _ _ p4]
    have hSl : S.length = 8 := by rw [← hS]; exact sumOf_len _ _
    have i4 : ∀ j, j < 64 → W.cell? ⟨b, 64 * x.1 + j, none⟩ = some (.int .u8 (byteAt ((pad l).drop (64 * x.1)) j : Nat)) := fun j hj => by
      rw [byteAt_drop]
      refine hI.cell ?_
      rw [cell_setRow_other _ _ _ _ (by show b ≠ _; omega)]
      have := HCS3.out (64 * x.1 + j) (by have := x.2; omega)
      rwa [Nat.zero_add] at this
    have HI := Lib.hid hI
    clear hI p1 p2 p3 c1 c2 hcap
    gi_wp2
    refine ⟨trivial, fun _ => by omega, (CallsIn.inRound lb (callsIn_wide.2 (add_w S ((pad l).drop (64 * x.1)) hSl (fun c hc => pad_lt l hb c (List.mem_of_mem_drop hc)) (r0 + 1) b (64 * x.1) 64 W i2 i3 (by omega) i4))).mono ?_⟩
    rintro e W' ⟨⟨u, rfl⟩, hg'⟩
    gi_wp2
    obtain ⟨k1, k2, k3⟩ := part_step w3 W W' (r0 + 1) w3.heap.size _ _ (by omega) rfl p4 HI.out hg'
    refine ⟨k1, k2, ?_⟩
    show Grew (w3.setRow (r0 + 1) (uv (sumOf (pad l) ((pre ++ [x]).map (·.1))))) W'
    rw [List.map_append, List.map_cons, List.map_nil, sumOf_snoc, hS]
    exact k3
  case done =>
    rintro D ys W hD hS hI HDD
    rw [hS, sumOf_range] at hI
    obtain ⟨S, hS2⟩ : ∃ S, sumk (pad l) K = S := ⟨_, rfl⟩
    rw [hS2] at hI
    have i1 : W.cell? ⟨r0 + 1 + 1, 0, none⟩ = some (.pointer (some ⟨r0 + 1, 0, none⟩)) := hI.cell (by rw [cell_setRow_other _ _ _ _ (by simp)]; exact p5)
    have i2 : W.rowAt (r0 + 1) = uv S := by rw [Grew.rowAt hI _ (by rw [setRow_size]; omega), rowAt_setRow_free _ _ _ p4]
    have i3 : W.rowFree (r0 + 1) = true := by rw [Grew.rowFree hI _ (by rw [setRow_size]; omega), rowFree_setRow_free _ _ _ p4]
    have hSl : S.length = 8 := by rw [← hS2, ← sumOf_range]; exact sumOf_len _ _
    have i5 : W.rowAt r0 = iv id0 := by rw [Grew.rowAt hI _ (by rw [setRow_size]; omega), rowAt_of_heap (heap_setRow_other _ _ _ _ (by omega))]; exact p1
    have i6 : W.rowFree r0 = true := by rw [Grew.rowFree hI _ (by rw [setRow_size]; omega), rowFree_of_heap (heap_setRow_other _ _ _ _ (by omega))]; exact p2
    have hgW : Grew w W := (Grew.setRow_new hg3.out (r0 + 1) _ (by have := HR0.out; omega)).trans hI
    have hsW : w3.heap.size ≤ W.heap.size := by have := hI.size; rw [setRow_size] at this; exact this
    have HGW := Lib.hid hgW
    have l0 : r0 < W.heap.size := by omega
    have l1 : r0 + 1 < W.heap.size := by omega
    have l2 : r0 + 1 + 1 < W.heap.size := by omega
    have i7 := fun (j : Nat) => show W.cell? ⟨r0 + 1, j, none⟩ = (uv S)[j]? by rw [cell_rowAt, i2]
    have HS := Lib.hid hS2
    clear hI p1 p2 p3 p4 p5 c1 c2 hcap hgW hS2 hS hg3 HCS3
    gi_wp2
    gi_loopw [16] (fun i wr => ∃ k : Nat, k ≤ 32 ∧ i = .int .i64 k ∧ wr = W.alloc (.cells (iv (outk S k)) 24)) (fun i _ => 32 - (intOf i).toNat)
    case atStart => exact ⟨0, by omega, rfl, by rw [outk_0]⟩
    case round =>
      obtain ⟨k, hk, rfl, rfl⟩ := hrel
      by_cases hn2 : k < 32
      · have hlt : (k : Int) < 32 := by omega
        have ho := outk_len S k
        have hos := outk_set S k
        obtain ⟨q, hq⟩ : ∃ q, 24 - 8 * (k % 4) = q := ⟨_, rfl⟩
        have hq1 : (24 : Int) - 8 * ((k : Int) % 4) = (q : Int) := by omega
        obtain ⟨q4, hq4⟩ : ∃ q4, k / 4 = q4 := ⟨_, rfl⟩
        have hd : (k : Int) / 4 = (q4 : Int) := by omega
        have hd2 : q4 < 8 := by omega
        have hd3 : (q4 : Int) < 8 := by omega
        have hu := uv_at S q4 (by omega)
        have hq5 : q ≤ 24 := by omega
        have hwb : u (wordAt S q4) / 2 ^ q % 256 = ((wordByte S k : Nat) : Int) := by
          unfold wordByte u; rw [hq, hq4, Int.natCast_emod, Int.natCast_ediv, Int.natCast_pow]; rfl
        have hat := iv_at (outk S k) k (by rw [ho]; omega)
        clear hk hn2 hq hq4
        gi_wp2
        exact ⟨⟨k + 1, by omega, by go_num, rfl⟩, by simp only [intOf]; omega⟩
      · obtain rfl : k = 32 := by omega
        clear hk hn2
        have ho := outk_len S 32
        gi_wp2
        have hDW : D < W.heap.size := (Array.getElem?_eq_some_iff.1 HDD).1
        have hDr : D ≠ r0 := by omega
        have e0 : w.heap.size = r0 := HR0.out
        have hD2 : ((W.setRow r0 (iv (outk S 32))).alloc (.cells (iv (outk S 32)) 24)).heap[D]? = some (.deferred (some [])) := by
          rw [Go.heap_alloc_old _ _ (by rw [setRow_size]; exact hDW), heap_setRow_other _ _ _ _ hDr]; exact HDD
        refine ⟨by simp, .inl ⟨_, _, rfl, run_takeDeferred hD2, ?_⟩⟩
        refine ⟨_, id_result rfl _ rfl (l := outk S 32) ?_ ho, ?_, ?_⟩
        · rw [rowAt_of_heap (World.putObj_heap_other (Ne.symm hDr)), rowAt_alloc_past _ _ _ (by rw [setRow_size]; exact l0), rowAt_setRow_free _ _ _ i6]
        · have hq := HK.out
          rw [sum, ← hq.2.1, Nat.mul_div_cancel_left _ (by omega), HS.out]
        · exact Grew.grown ((Grew.setRow_new HGW.out r0 _ (by omega)).alloc _) (grownBy_putObj' _ D (.deferred none)) (fun k e => by cases e; omega)
  case stop =>
    rintro D c pre W _ _ h _
    exact h.elim
theorem sum_w (l : List Nat) (v : Value) (w : World) (hl : l.length ≤ 1073741824) (hb : ∀ c ∈ l, c < 256) (hv : Shows w v (bys l)) :
    Calls Try.prog 38 #[v] w fun e w' => e = .returned (.agg (iv (sum l))) ∧ Grew w w' :=
  (callsIn_wide (n := 3)).1 (sum_in .wide 3 l rfl (Nat.le_refl _) v w hl hb hv)
end Go.Proofs.Ytnhcamklammcdaa
/- What stands behind a call. -/
namespace Go.Proofs.Ytnhcamklammcdaa
set_option linter.unusedVariables false
set_option linter.unusedSimpArgs false
open Go.ChangeShapes Go.WideShapes Go.ChangeAt Go.RowKit

/-- Behind a call that leaves what was as it was. -/
theorem post_of_old {H : Type} {enc : TypeId × Value → H} {P : Program} {f : Func} {s : ChangeSpec} {apart fresh handsOn again : Bool} {W W' : World} {args : Array Value} {v : Value} {ds gs : List (DataW H)} {before pa pv : List MemPlace}
    (hW : DataW.Whole enc P f.params.toList s.vars apart W args.toList ds gs before)
    (hres : ∀ (b : Nat) (sp : Nat → Bool) (hd : Bool), DataW.TrodAll enc P W' b sp hd f.resultTypes.toList (v.resultList f.resultTypes.size) (s.fn H (ds ++ gs)).results [])
    (hargs : ∀ sp : Nat → Bool, (∀ p ∈ before, sp p.block = true) → DataW.TrodAll enc P W' 0 sp true f.params.toList args.toList (s.fn H (ds ++ gs)).args pa)
    (hvars : ∀ sp : Nat → Bool, (∀ p ∈ before, sp p.block = true) → DataW.TrodVars enc P W' sp s.vars (s.fn H (ds ++ gs)).vars pv)
    (hps : before = pa ++ pv) (hg : Grew W W')
    (hok : ∀ (j : Nat) (t : TypeId) (r : Value), f.resultTypes[j]? = some t → (v.resultList f.resultTypes.size)[j]? = some r → Value.okWide P W' .any 0 t r) :
    s.post enc P f apart fresh handsOn again W args v W' := by
  have hlt := hW.lt
  have hold : ∀ p ∈ before, (fun b => decide (b < W.heap.size)) p.block = true := fun p hp => by simpa using hlt p hp
  refine ⟨ds, gs, before, [], pa, pv, hW, hres _ _ _, hargs _ hold, hvars _ hold, World.keptBut_mono (fun p hp => ⟨hp, ?_⟩) (hg.below.frame (· ∈ before)), fun _ => ?_⟩
  · rw [hps, List.mem_append] at hp
    exact Or.inr hp
  · obtain ⟨_, _, _, _, _, hz, hn⟩ := hW
    refine ⟨hok, _, _, ([] ++ pa) ++ pv, ⟨[] ++ pa, pv, trodAll_append (hargs _ (fun _ _ => rfl)) (hres _ _ _), hvars _ (fun _ _ => rfl), rfl, ?_, ?_⟩, ?_⟩
    · intro b off hp
      have hp' : MemPlace.cell b off ∈ before := by rw [hps]; simpa using hp
      obtain ⟨δ, rfl⟩ := hg
      have hb : b < W.heap.size := hlt _ hp'
      rw [frozen_grow_old _ _ _ _ _ hb]
      exact hz b off hp'
    · intro ha
      have := hn ha
      rw [hps] at this
      simpa using this
    · intro p hp _
      rw [hps]
      simpa using hp

theorem own : ownKnob Try.prog.godebug = none := by kernel_rfl
end Go.Proofs.Ytnhcamklammcdaa
/- What is handed over reads behind a call as it did, where the call has laid new memory alone. No program's function in sight. -/
namespace Go.Proofs.Ytnhcamklammcdaa
set_option linter.unusedVariables false
set_option linter.unusedSimpArgs false
open Go.ChangeShapes Go.WideShapes Go.ChangeAt Go.RowKit
set_option maxRecDepth 100000
theorem laidOut : laidOutB Try.prog = true := by kernel_rfl
theorem trodAll_stays {H : Type} {enc : TypeId × Value → H} {W W' : World} {sp : Nat → Bool} (hg : Grew W W') : ∀ (ts : List TypeId) {vs : List Value} {ds : List (DataW H)} {ps : List MemPlace},
    (∀ t ∈ ts, Try.prog.readableRec t = true ∧ t < Try.prog.types.size) → DataW.TrodAll enc Try.prog W 0 (fun _ => true) true ts vs ds ps → (∀ x ∈ ps, x.block < W.heap.size) → (∀ x ∈ ps, sp x.block = true) →
    DataW.TrodAll enc Try.prog W' 0 sp true ts vs ds ps
  | [], vs, ds, ps, _, h, _, _ => by
    obtain ⟨rfl, rfl, rfl⟩ := trodAll_nil h
    exact trodAll_mk0
  | t :: ts, vs, ds, ps, ht, h, hl, hs => by
    obtain ⟨v, vs', d, ds', p, q, rfl, rfl, rfl, h0, h1⟩ := trodAll_cons h
    have e := ht t (by simp)
    have hb := hg.below
    refine trodAll_cons_mk (WideElems.Trod_stays laidOut e.1 e.2 h0 (fun x hx => hb.same (hl x (by simp [hx]))) (fun x hx => hs x (by simp [hx]))) ?_
    exact trodAll_stays hg ts (fun t h => ht t (by simp [h])) h1 (fun x hx => hl x (by simp [hx])) (fun x hx => hs x (by simp [hx]))
theorem types_ok (ts : List TypeId) (h : (ts.all fun t => Try.prog.readableRec t && decide (t < Try.prog.types.size)) = true) : ∀ t ∈ ts, Try.prog.readableRec t = true ∧ t < Try.prog.types.size := fun t ht => by
  have := List.all_eq_true.1 h t ht
  simpa [Bool.and_eq_true, decide_eq_true_eq] using this
/-- Behind a call that leaves what was as it was. -/
theorem post_of_stays {H : Type} {enc : TypeId × Value → H} {f : Func} {s : ChangeSpec} {apart fresh handsOn again : Bool} {W W' : World} {args : Array Value} {v : Value} {ds gs : List (DataW H)} {pa : List MemPlace}
    (hW : DataW.Whole enc Try.prog f.params.toList s.vars apart W args.toList ds gs pa) (hvars0 : s.vars = [])
    (hA : DataW.TrodAll enc Try.prog W 0 (fun _ => true) true f.params.toList args.toList ds pa)
    (hty : ∀ t ∈ f.params.toList, Try.prog.readableRec t = true ∧ t < Try.prog.types.size)
    (hargs : (s.fn H (ds ++ gs)).args = ds) (hvarsd : (s.fn H (ds ++ gs)).vars = [])
    (hres : ∀ (b : Nat) (sp : Nat → Bool) (hd : Bool), DataW.TrodAll enc Try.prog W' b sp hd f.resultTypes.toList (v.resultList f.resultTypes.size) (s.fn H (ds ++ gs)).results [])
    (hg : Grew W W')
    (hok : ∀ (j : Nat) (t : TypeId) (r : Value), f.resultTypes[j]? = some t → (v.resultList f.resultTypes.size)[j]? = some r → Value.okWide Try.prog W' .any 0 t r) :
    s.post enc Try.prog f apart fresh handsOn again W args v W' :=
  post_of_old (pa := pa) (pv := []) hW hres (fun sp hsp => by rw [hargs]; exact trodAll_stays hg _ hty hA hW.lt hsp) (fun sp hsp => by rw [hvarsd, hvars0]; exact rfl) (by simp) hg hok
end Go.Proofs.Ytnhcamklammcdaa
/- How the reader reads bytes. -/
namespace Go.Proofs.Ytnhcamklammcdaa
set_option linter.unusedVariables false
set_option linter.unusedSimpArgs false
open Go.ChangeShapes Go.WideShapes Go.ChangeAt Go.RowKit
theorem cells8 : Try.prog.cellsOf 5 = 1 := by kernel_rfl
theorem u8_nat {a : Int} (h : (Lit.int .u8 a).wf = true) : ∃ n : Nat, a = n ∧ n < 256 := by
  have hx := bounds_u8 h
  exact ⟨a.toNat, by omega, by omega⟩
theorem u32_nat {a : Int} (h : (Lit.int .u32 a).wf = true) : ∃ n : Nat, a = n ∧ n < 4294967296 := by
  have hx := bounds_u32 h
  exact ⟨a.toNat, by omega, by omega⟩
theorem wf_u8 (n : Nat) (h : n < 256) : (Lit.int .u8 (n : Int)).wf = true := by
  simp [Lit.wf, IntKind.min, IntKind.max, IntKind.signed, IntKind.bits]; omega

theorem bytes_of_trod {H : Type} {enc : TypeId × Value → H} {W : World} {base m : Nat} {sp : Nat → Bool} {cs : List Value} {xs : List (DataW H × List MemPlace)} (hl : xs.length = cs.length)
    (h : ∀ (i : Nat), i < cs.length → DataW.trod enc Try.prog W base sp true m 5 ((cs.drop i).take 1) = xs[i]?) :
    ∃ l : List Nat, cs = l.map (fun (c : Nat) => Value.int .u8 (c : Int)) ∧ (∀ c ∈ l, c < 256) ∧ xs = l.map (fun (c : Nat) => (.lit (.int .u8 (c : Int)), [])) := by
  induction cs generalizing xs with
  | nil =>
    have : xs = [] := List.length_eq_zero_iff.1 hl
    exact ⟨[], rfl, by simp, by rw [this]; rfl⟩
  | cons c cs ih =>
    cases xs with
    | nil => simp at hl
    | cons x xs =>
      have h0 := h 0 (by simp)
      simp only [List.drop_zero, List.take_succ_cons, List.take_zero, List.getElem?_cons_zero] at h0
      obtain ⟨n, e1, e2, wf⟩ := DataW.trod_int Try.underlying5 h0
      simp only [List.cons.injEq, and_true] at e1
      obtain ⟨k, rfl, hk⟩ := u8_nat wf
      obtain ⟨l, hl1, hl2, hl3⟩ := ih (xs := xs) (by simpa using hl) fun i hi => by
        have := h (i + 1) (by simp; omega)
        simpa using this
      exact ⟨k :: l, by rw [e1, hl1]; rfl, by simp [hk]; exact hl2, by rw [e2, hl3]; rfl⟩
end Go.Proofs.Ytnhcamklammcdaa
/- An argument of bytes, opened. -/
namespace Go.Proofs.Ytnhcamklammcdaa
set_option linter.unusedVariables false
set_option linter.unusedSimpArgs false
open Go.ChangeShapes Go.WideShapes Go.ChangeAt Go.RowKit
theorem cellsU8 : Try.prog.cellsOf 5 = 1 := by kernel_rfl
/-- Cells of bytes, as numbers. -/
theorem bytes_nat : ∀ (zs : List Int), (∀ n ∈ zs, (Lit.int .u8 n).wf = true) → ∃ l : List Nat, zs = l.map (fun (c : Nat) => (c : Int)) ∧ ∀ c ∈ l, c < 256
  | [], _ => ⟨[], rfl, by simp⟩
  | z :: zs, h => by
    obtain ⟨n, rfl, hn⟩ := u8_nat (h z (by simp))
    obtain ⟨l, rfl, hl⟩ := bytes_nat zs (fun n hn => h n (by simp [hn]))
    exact ⟨n :: l, rfl, by intro c hc; rcases List.mem_cons.1 hc with rfl | hc; exact hn; exact hl c hc⟩
theorem plain_of_cell {w : World} {a : Addr} {v : Value} (h : w.cell? a = some v) : a = ⟨a.block, a.off, none⟩ ∧ a.block < w.heap.size := by
  refine ⟨?_, World.block_lt_of_cell? w a h⟩
  cases a with
  | mk b o s =>
    cases s with
    | none => rfl
    | some s =>
      exfalso
      simp only [World.cell?] at h
      split at h <;> simp at h
/-- What is shown by cells at whatever address. -/
theorem shows_of_cells {w : World} {a : Addr} {c : Nat} {xs : List Value} (h : ∀ j u, xs[j]? = some u → w.cell? (a.add j) = some u) : Shows w (.slice (some a) xs.length c) xs := by
  cases hx : xs with
  | nil => exact .inr ⟨_, _, rfl, rfl⟩
  | cons x r =>
    rw [hx] at h
    have h0 := h 0 x rfl
    have ha : a.add 0 = a := by unfold Addr.add; simp
    rw [ha] at h0
    obtain ⟨e, hb⟩ := plain_of_cell h0
    refine .inl ⟨a.block, a.off, c, by rw [e], hb, fun j u hj => ?_⟩
    have := h j u hj
    rw [e, add_off] at this
    exact this
theorem open_bytes {H : Type} {enc : TypeId × Value → H} {W : World} {v : Value} {d : DataW H} {p : List MemPlace} (h : DataW.Trod enc Try.prog W 0 (fun _ => true) true 65 v d p) (hv : v.cells = #[v]) :
    ∃ (q : Option Addr) (c : Nat) (l : List Nat), v = .slice q l.length c ∧ (∀ x ∈ l, x < 256) ∧ l.length ≤ maxLen ∧ Shows W (.slice q l.length c) (bys l) := by
  obtain ⟨fuel, hf⟩ := h
  rw [hv] at hf
  rcases open_ints Try.underlying65 Try.underlying5 cellsU8 hf with ⟨hcs, _⟩ | ⟨a, len, cap, zs, hcs, _, hl, hm, hz, _, hcell, hwz⟩
  · obtain rfl : v = .slice none 0 0 := by simpa using hcs
    exact ⟨none, 0, [], rfl, by simp, by simp, .inr ⟨_, _, rfl, rfl⟩⟩
  · obtain rfl : v = .slice (some a) len cap := by simpa using hcs
    simp only [if_true] at hz
    obtain ⟨l, rfl, hlb⟩ := bytes_nat zs hwz
    have hl2 : (l.take len).length = len := by rw [List.length_take]; rw [List.length_map] at hz; omega
    refine ⟨some a, cap, l.take len, by rw [hl2], fun x hx => hlb x (List.mem_of_mem_take hx), by omega, ?_⟩
    have := shows_of_cells (w := W) (a := a) (c := cap) (xs := bys (l.take len)) (fun j u hj => by
      have hj2 : j < (l.take len).length := by
        have := (List.getElem?_eq_some_iff.1 hj).1
        rwa [bys_len] at this
      rw [hl2] at hj2
      rw [List.length_map] at hz hcell
      rw [hcell j (by omega)]
      have hj3 : j < l.length := by omega
      simp only [bys, List.getElem?_map, List.getElem?_take, if_pos hj2, List.getElem?_eq_getElem hj3, Option.map_some, Option.some.injEq] at hj
      rw [← hj]
      simp [List.getD, hj3])
    rwa [bys_len] at this
end Go.Proofs.Ytnhcamklammcdaa
/- An argument of slices of bytes, opened. -/
namespace Go.Proofs.Ytnhcamklammcdaa
set_option linter.unusedVariables false
set_option linter.unusedSimpArgs false
open Go.ChangeShapes Go.WideShapes Go.ChangeAt Go.RowKit
set_option maxRecDepth 100000
/-- The slice shows slices of these bytes. -/
def RowsAt (w : World) (v : Value) (ls : List (List Nat)) : Prop := ∃ vs : List Value, vs.length = ls.length ∧ Shows w v vs ∧ ∀ k, k < ls.length → Shows w (vs.getD k undef) (bys (ls.getD k []))
theorem RowsAt.grew {w w' : World} {v : Value} {ls : List (List Nat)} (h : RowsAt w v ls) (g : Grew w w') : RowsAt w' v ls := by
  obtain ⟨vs, h1, h2, h3⟩ := h
  exact ⟨vs, h1, h2.grew g, fun k hk => (h3 k hk).grew g⟩
theorem cellsBs : Try.prog.cellsOf 65 = 1 := by kernel_rfl
theorem open_rows {H : Type} {enc : TypeId × Value → H} {W : World} {v : Value} {d : DataW H} {p : List MemPlace} (h : DataW.Trod enc Try.prog W 0 (fun _ => true) true 72 v d p) (hv : v.cells = #[v]) :
    ∃ (q : Option Addr) (c : Nat) (ls : List (List Nat)), v = .slice q ls.length c ∧ (∀ l ∈ ls, ∀ x ∈ l, x < 256) ∧ (ls.length ≤ maxLen ∧ ∀ l ∈ ls, l.length ≤ maxLen) ∧ RowsAt W (.slice q ls.length c) ls := by
  obtain ⟨fuel, hf⟩ := h
  rw [hv] at hf
  rcases Deep.open_int_rows Try.underlying72 Try.underlying65 Try.underlying5 cellsBs cellsU8 hf with ⟨hcs, _⟩ | ⟨a, len, cap, A, L, C, Z, hcs, _, hl, hm, _, hr⟩
  · obtain rfl : v = .slice none 0 0 := by simpa using hcs
    exact ⟨none, 0, [], rfl, by simp, ⟨by simp, by simp⟩, [], rfl, .inr ⟨_, _, rfl, rfl⟩, by simp⟩
  · obtain rfl : v = .slice (some a) len cap := by simpa using hcs
    have each : ∀ r, r < cap → ∃ l : List Nat, l.length = L r ∧ (∀ x ∈ l, x < 256) ∧ l.length ≤ maxLen ∧ Shows W (.slice (A r) (L r) (C r)) (bys l) := fun r hr' => by
      obtain ⟨_, h1, h2, h3, h4, h5, h6⟩ := hr r hr'
      obtain ⟨l, hlz, hlb⟩ := bytes_nat (Z r) h4
      have hll : l.length = C r := by rw [← h3, hlz, List.length_map]
      have htl : (l.take (L r)).length = L r := by rw [List.length_take]; omega
      refine ⟨l.take (L r), htl, fun x hx => hlb x (List.mem_of_mem_take hx), by omega, ?_⟩
      cases hA : A r with
      | none =>
        have hc0 := h5 hA
        have hl0 : L r = 0 := by omega
        rw [hl0, List.take_zero]
        exact .inr ⟨_, _, rfl, rfl⟩
      | some a' =>
        obtain ⟨_, hcell⟩ := h6 a' hA
        have := shows_of_cells (w := W) (a := a') (c := C r) (xs := bys (l.take (L r))) (fun j u hj => by
          have hj2 : j < (l.take (L r)).length := by
            have := (List.getElem?_eq_some_iff.1 hj).1
            rwa [bys_len] at this
          rw [htl] at hj2
          rw [hcell j (by omega), hlz]
          have hj3 : j < l.length := by omega
          simp only [bys, List.getElem?_map, List.getElem?_take, if_pos hj2, List.getElem?_eq_getElem hj3, Option.map_some, Option.some.injEq] at hj
          rw [← hj]
          simp [List.getD, hj3])
        rwa [bys_len, htl] at this
    have pick : ∀ n, n ≤ len → ∃ ls : List (List Nat), ls.length = n ∧ ∀ r, r < n → (ls.getD r []).length = L r ∧ (∀ x ∈ ls.getD r [], x < 256) ∧ (ls.getD r []).length ≤ maxLen ∧ Shows W (.slice (A r) (L r) (C r)) (bys (ls.getD r [])) := by
      intro n
      induction n with
      | zero => exact fun _ => ⟨[], rfl, by omega⟩
      | succ n ih =>
        intro hn
        obtain ⟨ls, h1, h2⟩ := ih (by omega)
        obtain ⟨l, h3⟩ := each n (by omega)
        refine ⟨ls ++ [l], by simp [h1], fun r hr' => ?_⟩
        rcases Nat.lt_or_ge r n with h | h
        · have : (ls ++ [l]).getD r [] = ls.getD r [] := by simp [List.getD, List.getElem?_append_left (show r < ls.length by omega)]
          rw [this]; exact h2 r h
        · obtain rfl : r = n := by omega
          have : (ls ++ [l]).getD r [] = l := by simp [List.getD, ← h1]
          rw [this]; exact h3
    obtain ⟨ls, hls, hr2⟩ := pick len (Nat.le_refl _)
    have hmem : ∀ l ∈ ls, ∃ r, r < len ∧ ls.getD r [] = l := fun l hl' => by
      obtain ⟨r, hr', e⟩ := List.getElem_of_mem hl'
      exact ⟨r, by omega, by simp [List.getD, hr', e]⟩
    refine ⟨some a, cap, ls, by rw [hls], fun l hl' => ?_, ⟨by omega, fun l hl' => ?_⟩, (List.range len).map (fun r => .slice (A r) (L r) (C r)), by simp [hls], ?_, fun k hk => ?_⟩
    · obtain ⟨r, hr', rfl⟩ := hmem l hl'
      exact (hr2 r hr').2.1
    · obtain ⟨r, hr', rfl⟩ := hmem l hl'
      exact (hr2 r hr').2.2.1
    · have := shows_of_cells (w := W) (a := a) (c := cap) (xs := (List.range len).map (fun r => Value.slice (A r) (L r) (C r))) (fun j u hj => by
        have hj2 : j < len := by have := (List.getElem?_eq_some_iff.1 hj).1; simpa using this
        rw [(hr j (by omega)).1]
        simpa [hj2] using hj)
      rw [List.length_map, List.length_range] at this
      rw [hls]; exact this
    · rw [hls] at hk
      have : ((List.range len).map (fun r => Value.slice (A r) (L r) (C r))).getD k undef = .slice (A k) (L k) (C k) := by simp [List.getD, hk]
      rw [this]
      exact (hr2 k hk).2.2.2
end Go.Proofs.Ytnhcamklammcdaa
/- sha.Of. -/
namespace Go.Proofs.Ytnhcamklammcdaa
set_option linter.unusedVariables false
set_option linter.unusedSimpArgs false
open Go.RowKit
set_option maxRecDepth 100000
set_option maxRecDepth 100000 in
set_option maxHeartbeats 1600000 in
theorem of_w (ls : List (List Nat)) (v : Value) (w : World) (hb : ∀ l ∈ ls, ∀ x ∈ l, x < 256) (hn : ls.length ≤ 1000000) (hl : ls.flatten.length ≤ 1073741824) (hv : RowsAt w v ls) :
    Calls Try.prog 40 #[v] w fun e w' => e = .returned (.agg (iv (sum ls.flatten))) ∧ Grew w w' := by
  have HV := Lib.hid hv
  clear hv
  go_enter Try.func40, Try.ntmps40
  go_wp2_with (go_at_call 56; refine stop_of ?_)
  unfold Stop
  obtain ⟨vs, h1, h2, h3⟩ := HV.out
  have g0 : Grew w (w.alloc (.cells (iv id0) 24)) := (by repeat (first | with_reducible exact Grew.refl _ | with_reducible apply Grew.alloc | with_reducible apply Grew.grow | with_reducible apply Grew.drew | with_reducible apply Grew.drewN))
  refine (concat_w ls vs v _ h1 (h2.grew g0) (fun k hk => (h3 k hk).grew g0) (by omega) (by omega)).mono ?_
  rintro e w2 ⟨v2, rfl, ho, hg⟩
  have HO := Lib.hid ho.shows
  have HG := Lib.hid (g0.trans hg)
  have r1 : w2.rowAt w.heap.size = iv id0 := by rw [Grew.rowAt hg _ (by simp)]; simp [go_sem]
  have r2 : w2.rowFree w.heap.size = true := by rw [Grew.rowFree hg _ (by simp)]; simp [go_sem]
  have hlt : w.heap.size < w2.heap.size := by have := hg.size; simp at this; omega
  have hbf : ∀ c ∈ ls.flatten, c < 256 := fun c hc => by
    obtain ⟨l, hl1, hl2⟩ := List.mem_flatten.1 hc
    exact hb l hl1 c hl2
  have HB := Lib.hid hbf
  have hsl := sum_len ls.flatten
  clear ho hg g0 h2 h3 hbf HV hb
  go_wp2_with (go_at_call 38; refine (sum_w ls.flatten _ _ hl HB.out HO.out).mono ?_; rintro e w' ⟨rfl, δ, rfl⟩)
  refine bodyPost_ret (id_result rfl _ rfl (l := sum ls.flatten) ?_ hsl) rfl ⟨rfl, ?_⟩
  · rw [rowAt_grow_old _ _ _ (by rw [setRow_size]; exact hlt), rowAt_setRow_free _ _ _ r2]
  · exact (Grew.setRow_new HG.out _ _ (Nat.le_refl _)).grow _
/-- The sum as an id. -/
def Idb.sum (l : List Nat) : Idb := ⟨Go.Proofs.Ytnhcamklammcdaa.sum l, sum_len l, sum_lt l⟩
end Go.Proofs.Ytnhcamklammcdaa
/- bin.Put. -/
namespace Go.Proofs.Ytnhcamklammcdaa
set_option linter.unusedVariables false
set_option linter.unusedSimpArgs false
open Go.RowKit
set_option maxRecDepth 100000
/-- A number's bytes, the greatest first. -/
def putL (n size : Nat) : List Nat := (List.range size).map fun i => n / 256 ^ (size - 1 - i) % 256
theorem putL_len (n size : Nat) : (putL n size).length = size := by simp [putL]
theorem putL_lt (n size : Nat) : ∀ c ∈ putL n size, c < 256 := by
  intro c hc
  obtain ⟨i, _, rfl⟩ := List.mem_map.1 hc
  exact Nat.mod_lt _ (by omega)
/-- .. behind 'k' steps. -/
def putK (n size k : Nat) : List Nat := (List.range size).map fun i => if size ≤ i + k then n / 256 ^ (size - 1 - i) % 256 else 0
theorem putK_len (n size k : Nat) : (putK n size k).length = size := by simp [putK]
theorem putK_0 (n size : Nat) : putK n size 0 = zeros size := by
  unfold putK zeros
  apply List.ext_getElem
  · simp
  · intro i h1 h2
    simp at h1
    simp
    omega
theorem putK_all (n size : Nat) : putK n size size = putL n size := by
  unfold putK putL
  apply List.map_congr_left
  intro i hi
  rw [if_pos (by omega)]
theorem putK_step (n size k : Nat) (hk : k < size) : (putK n size k).set (size - 1 - k) (n / 256 ^ k % 256) = putK n size (k + 1) := by
  apply List.ext_getElem
  · simp [putK_len]
  · intro i h1 h2
    rw [List.length_set, putK_len] at h1
    rw [List.getElem_set]
    simp only [putK, List.getElem_map, List.getElem_range]
    by_cases he : size - 1 - k = i
    · rw [if_pos he, if_pos (by omega), show size - 1 - i = k by omega]
    · rw [if_neg he]
      by_cases h3 : size ≤ i + k
      · rw [if_pos h3, if_pos (by omega)]
      · rw [if_neg h3, if_neg (by omega)]
theorem bys_set (l : List Nat) (i x : Nat) : (bys l).set i (.int .u8 (x : Int)) = bys (l.set i x) := by simp [bys, List.map_set]
set_option maxRecDepth 100000 in
set_option maxHeartbeats 3200000 in
theorem put_w (n size : Nat) (hn : n < 18446744073709551616) (hs : size ≤ 8) (w : World) :
    Calls Try.prog 58 #[.int .u64 (n : Int), .int .i64 (size : Int)] w fun e w' => ∃ cap, e = .returned (.slice (some ⟨w.heap.size, 0, none⟩) size cap) ∧ OwnR w' w.heap.size 5 (.slice (some ⟨w.heap.size, 0, none⟩) size cap) (bys (putL n size)) ∧ Grew w w' := by
  have hsI : (size : Int) ≤ 8 := by omega
  have hs2 : size ≤ 1099511627776 := by omega
  go_enter Try.func58, Try.ntmps58
  go_wp2
  have o0 := own_alloc w w.heap.size 5 (bys (zeros size)) (Nat.le_refl _) (by rw [bys_len, zeros_len]; simp [maxLen]; omega)
  rw [← putK_0 n, bys_len, putK_len] at o0
  have hz : w.alloc (.cells (bys (zeros size)).toArray 5) = w.alloc (.cells (bys (putK n size 0)).toArray 5) := by rw [putK_0]
  rw [hz]
  have O0 := Lib.hid o0
  have G0 := Lib.hid (show Grew w (w.alloc (.cells (bys (putK n size 0)).toArray 5)) from (by repeat (first | with_reducible exact Grew.refl _ | with_reducible apply Grew.alloc | with_reducible apply Grew.grow | with_reducible apply Grew.drew | with_reducible apply Grew.drewN)))
  obtain ⟨X, hX⟩ : ∃ X, w.alloc (.cells (bys (putK n size 0)).toArray 5) = X := ⟨_, rfl⟩
  rw [hX] at O0 G0 ⊢
  clear o0 hz hX
  go_loopw [16] (fun i wr => ∃ k : Nat, k ≤ size ∧ i = .int .i64 k ∧ OwnR wr w.heap.size 5 (.slice (some ⟨w.heap.size, 0, none⟩) size size) (bys (putK n size k)) ∧ Grew w wr) (fun i _ => size - (intOf i).toNat)
  case atStart => exact ⟨0, by omega, rfl, O0.out, G0.out⟩
  case round =>
    obtain ⟨k, hk, rfl, ho, hg⟩ := hrel
    by_cases hks : k < size
    · have hlt : (k : Int) < (size : Int) := by omega
      have c1 := own_cell ho (size - 1 - k) (by rw [bys_len, putK_len]; omega)
      have f1 := own_frozen ho (size - 1 - k)
      have hgs : w.heap.size < wr.heap.size := (ho.block _ rfl).2
      have hidx : (size : Int) - 1 - (k : Int) = ((size - 1 - k : Nat) : Int) := by omega
      have HO := Lib.hid ho
      have HG := Lib.hid hg
      clear ho hg O0 G0
      go_wp2
      have hv : (n : Int) / 2 ^ (8 * k) % 256 = ((n / 256 ^ k % 256 : Nat) : Int) := by
        rw [show (256 : Nat) ^ k = 2 ^ (8 * k) by rw [Nat.pow_mul]]
        push_cast
        rfl
      have s1 := own_stored HO.out (size - 1 - k) (.int .u8 ((n / 256 ^ k % 256 : Nat) : Int))
      rw [bys_set, putK_step n size k hks] at s1
      rw [hv]
      exact ⟨⟨k + 1, by omega, by go_num, s1.1, HG.out.grown s1.2 (fun z hz => by cases hz; exact Nat.le_refl _)⟩, by simp only [intOf]; omega⟩
    · obtain rfl : k = size := by omega
      have hge : ¬ ((k : Int) < (k : Int)) := by omega
      rw [putK_all] at ho
      have HO := Lib.hid ho
      have HG := Lib.hid hg
      clear ho hg O0 G0 hks hk
      go_wp2
      go_ret
      exact ⟨_, rfl, HO.out, HG.out⟩
/-- Any size that is none. -/
theorem put_out (n : Nat) (size : Int) (hn : n < 18446744073709551616) (hs : size < 0 ∨ 8 < size) (w : World) : Calls Try.prog 58 #[.int .u64 (n : Int), .int .i64 size] w fun e w' => e = .returned (.slice none 0 0) ∧ Grew w w' := by
  have h : size < 0 ∨ (¬ size < 0 ∧ 8 < size) := by omega
  clear hs
  rcases h with h | ⟨h, h2⟩
  all_goals
    go_enter Try.func58, Try.ntmps58
    go_wp2
    go_ret
    exact ⟨rfl, Grew.refl _⟩
/-- The number of bytes. -/
def numL (l : List Nat) : Nat := l.foldl (fun n c => n * 256 + c) 0
theorem numL_snoc (l : List Nat) (c : Nat) : numL (l ++ [c]) = numL l * 256 + c := by simp [numL]
theorem numL_lt : ∀ (n : Nat) (l : List Nat), l.length = n → (∀ c ∈ l, c < 256) → numL l < 256 ^ n
  | 0, l, hl, _ => by
    obtain rfl : l = [] := List.length_eq_zero_iff.1 hl
    simp [numL]
  | n + 1, l, hl, h => by
    obtain ⟨l', c, rfl⟩ : ∃ l' c, l = l' ++ [c] := ⟨l.dropLast, l.getLast (by rintro rfl; simp at hl), (List.dropLast_concat_getLast _).symm⟩
    rw [List.length_append, List.length_singleton] at hl
    have h1 := numL_lt n l' (by omega) fun x hx => h x (by simp [hx])
    have h2 := h c (by simp)
    rw [numL_snoc, Nat.pow_succ]
    omega
end Go.Proofs.Ytnhcamklammcdaa
/- As Flow, where the last steps may write into what is the call's own: those wait for all quiet steps. No program in sight. -/
namespace Go
set_option linter.unusedVariables false
set_option linter.unusedSimpArgs false
open Go.RowKit
section
variable {P : Program} {ops : Array Oper} {md : Region.Mode} {esc : List Nat}
/-- Whatever order comes, in whatever world has come meanwhile; behind a step of 'esc' in just the world that it leaves. -/
def wpFlowX (P : Program) (md : Region.Mode) (ops : Array Oper) (esc : List Nat) (Q : Exit → Act → World → Prop) : Nat → Array Bool → Act → World → Prop
  | 0, listed, a, w => Region.ready md ops listed = [] ∧ ∀ w', Grew w w' → Q .normal a w'
  | f + 1, listed, a, w =>
    (Region.ready md ops listed = [] → ∀ w', Grew w w' → Q .normal a w') ∧
    ∀ i ∈ Region.ready md ops listed, ∀ w', Grew w w' → wpOp P ops Q i (fun a' w'' => if esc.contains i then wpAny P md ops Q f (listed.setIfInBounds i true) a' w'' else Grew w' w'' ∧ wpFlowX P md ops esc Q f (listed.setIfInBounds i true) a' w'') a w'
theorem wpFlowX_mono {Q : Exit → Act → World → Prop} : ∀ (f : Nat) (listed : Array Bool) (a : Act) (w w' : World), Grew w w' → wpFlowX P md ops esc Q f listed a w → wpFlowX P md ops esc Q f listed a w'
  | 0, _, _, _, _, hg, h => ⟨h.1, fun w'' hg' => h.2 w'' (hg.trans hg')⟩
  | f + 1, listed, a, w, w', hg, h => ⟨fun h0 w'' hg' => h.1 h0 w'' (hg.trans hg'), fun i hi w'' hg' => h.2 i hi w'' (hg.trans hg')⟩
theorem wpAny_of_flowX {Q : Exit → Act → World → Prop} : ∀ (f : Nat) (listed : Array Bool) (a : Act) (w : World), wpFlowX P md ops esc Q f listed a w → wpAny P md ops Q f listed a w
  | 0, _, _, w, h => ⟨h.1, h.2 w (Grew.refl _)⟩
  | f + 1, listed, a, w, h => ⟨fun h0 => h.1 h0 w (Grew.refl _), fun i hi => wpOp_mono (fun a' w' h' => by
      split at h'
      · exact h'
      · exact wpAny_of_flowX f _ a' w' h'.2) (h.2 i hi w (Grew.refl _))⟩
/-- A quiet step goes first. -/
theorem wpFlowX_first {i : Nat} {oi : Oper} {v : Value} {Q : Exit → Act → World → Prop} (hQ : ∀ c a w d v, Q (.panic c) (Act.put a d v) w → Q (.panic c) a w)
    (hi : ops[i]? = some oi) (hsel : ∀ (j : Nat) (o : Oper) cs b, ops[j]? = some o → o.op ≠ .select cs b) (hne : esc.contains i = false) (hwait : ∀ t ∈ esc, Region.waitsT md ops ops.size t i = true) :
    ∀ (f : Nat) (listed : Array Bool) (a : Act) (w : World), ClosedL md ops listed →
      (∀ j oj, ops[j]? = some oj → j ≠ i → listed.getD j true = false → (∀ e ∈ oj.after, Region.binds md e = true → e.on ≠ i) → oi.apart ops oj = true) →
      i ∈ Region.ready md ops listed → GivesIn P ops (fun w' => Grew w w') oi v a →
      wpFlowX P md ops esc Q f (listed.setIfInBounds i true) (a.put oi.dst v) w → wpFlowX P md ops esc Q (f + 1) listed a w := by
  have self : ∀ (f : Nat) (listed : Array Bool) (a : Act) (w : World), GivesIn P ops (fun w' => Grew w w') oi v a → wpFlowX P md ops esc Q f (listed.setIfInBounds i true) (a.put oi.dst v) w →
      ∀ w', Grew w w' → wpOp P ops Q i (fun a' w'' => if esc.contains i then wpAny P md ops Q f (listed.setIfInBounds i true) a' w'' else Grew w' w'' ∧ wpFlowX P md ops esc Q f (listed.setIfInBounds i true) a' w'') a w' := fun f listed a w hy Hh w' hg => by
    simp only [hne, Bool.false_eq_true, if_false]
    exact wpOp_of_gives hi hy hg fun w'' hg' => ⟨hg', wpFlowX_mono f _ _ _ _ (hg.trans hg') Hh⟩
  intro f
  induction f with
  | zero =>
    intro listed a w _ _ hr hy Hh
    refine ⟨fun h => (by rw [h] at hr; cases hr), fun j hj => ?_⟩
    by_cases hji : j = i
    · subst hji; exact self 0 listed a w hy Hh
    · have := ready_mono hj hji
      rw [Hh.1] at this
      cases this
  | succ f ih =>
    intro listed a w inv hfree hr hy Hh
    refine ⟨fun h => (by rw [h] at hr; cases hr), fun j hj => ?_⟩
    by_cases hji : j = i
    · subst hji; exact self (f + 1) listed a w hy Hh
    · have h1 := Hh.2 j (ready_mono hj hji)
      obtain ⟨hjun, oj, hoj, hall⟩ := mem_ready.1 hj
      have hun := (mem_ready.1 hr).1
      have hesc : esc.contains j = false := by
        cases he : esc.contains j with
        | false => rfl
        | true =>
          have h2 := inv.ready_waits hj (hwait j (by simpa using he))
          rw [getD_both hun] at h2
          cases h2
      have hnot : ∀ e ∈ oj.after, Region.binds md e = true → e.on ≠ i := fun e he hb heq => by
        have h1 := hall e he hb
        rw [heq, getD_both hun] at h1
        cases h1
      have hfree' : ∀ k ok, ops[k]? = some ok → k ≠ i → (listed.setIfInBounds j true).getD k true = false →
          (∀ e ∈ ok.after, Region.binds md e = true → e.on ≠ i) → oi.apart ops ok = true := fun k ok hk hki hun hno => by
        refine hfree k ok hk hki ?_ hno
        by_cases hjk : j = k
        · subst hjk; exact hjun
        · rw [getD_set_ne true hjk] at hun; exact hun
      have hap := hfree j oj hoj hji hjun hnot
      intro w' hg
      simp only [hesc, Bool.false_eq_true, if_false] at h1 ⊢
      have h2 := wpOp_putG hoj hap (fun cs b => hsel i oi cs b hi) (fun cs b => hsel j oj cs b hoj) hQ hy (h1 w' hg)
      refine wpOp_mono (fun a' w'' h3 => ⟨h3.2.1, ih (listed.setIfInBounds j true) a' w'' (inv.set hj) hfree' (ready_mono hr (Ne.symm hji)) (h3.1.sub fun x hx => hg.trans (h3.2.1.trans hx)) ?_⟩) h2
      rw [Array.setIfInBounds_comm _ _ hji]
      exact h3.2.2
def Region.closedB (md : Region.Mode) (ops : Array Oper) (listed : Array Bool) : Bool :=
  (List.range ops.size).all fun j => !listed.getD j false || match ops[j]? with | some o => o.after.all fun e => !Region.binds md e || listed.getD e.on false | none => true
theorem closed_of_B {listed : Array Bool} (h : Region.closedB md ops listed = true) : ClosedL md ops listed := by
  intro j oj hoj hl e he hb
  have hj : j < ops.size := (Array.getElem?_eq_some_iff.1 hoj).1
  have h1 := List.all_eq_true.1 h j (by simpa using hj)
  simp only [hl, hoj, Bool.not_true, Bool.false_or] at h1
  have h2 := (Array.all_eq_true'.1 h1) e he
  simpa [hb] using h2
def Region.flowLexX (md : Region.Mode) (ops : Array Oper) (esc : List Nat) : List Nat → Array Bool → Bool
  | [], _ => true
  | k :: ks, listed => (Region.ready md ops listed).contains k && Region.free md ops listed k && !esc.contains k && (esc.all fun t => Region.waitsT md ops ops.size t k) && Region.flowLexX md ops esc ks (listed.setIfInBounds k true)
theorem wpFlowX_lex {Q : Exit → Act → World → Prop} {A : Act} (hQ : ∀ c a w d v, Q (.panic c) (Act.put a d v) w → Q (.panic c) a w) (hsel : Region.noSelect ops = true) {w : World} (f : Nat) :
    ∀ (qs : List Nat) (listed : Array Bool) (a : Act), ClosedL md ops listed → wpFlowX P md ops esc Q f (Region.listAll listed qs) A w → Region.flowLexX md ops esc qs listed = true → givesAll P ops (fun w' => Grew w w') A qs a → wpFlowX P md ops esc Q (qs.length + f) listed a w
  | [], listed, a, _, hE, _, h => by
    simp only [givesAll] at h
    subst h
    rw [List.length_nil, Nat.zero_add]
    exact hE
  | k :: qs, listed, a, inv, hE, hB, h => by
    simp only [Region.flowLexX, Bool.and_eq_true] at hB
    obtain ⟨⟨⟨⟨hr, hf⟩, hne⟩, hw⟩, hB'⟩ := hB
    obtain ⟨o, d, ho', hd, hy, hk⟩ := h
    have hr' : k ∈ Region.ready md ops listed := by simpa using hr
    rw [List.length_cons, show qs.length + 1 + f = qs.length + f + 1 by omega]
    refine wpFlowX_first hQ ho' (Region.noSelect_spec hsel) (by simpa using hne) (fun t ht => List.all_eq_true.1 hw t ht) _ listed a w inv (Region.free_spec ho' hf) hr' hy ?_
    rw [hd]
    exact wpFlowX_lex hQ hsel f qs _ _ (inv.set hr') hE hB' hk
end
section
variable {P : Program} {l : List Oper} {Q : Exit → Act → World → Prop} {esc : List Nat}
/-- The call in the quiet part of a region's beginning, behind a call before. -/
theorem Calls.pure_of_g4 {f : FuncId} {args : Array Value} {X : World} {a b c n : Junk} {v : Value}
    (h : Calls P f args (X.grow ⟨a.objs ++ (b.objs ++ (c.objs ++ n.objs)), n.drawn⟩) fun e w' => e = .returned v ∧ Grew (X.grow ⟨a.objs ++ (b.objs ++ (c.objs ++ n.objs)), n.drawn⟩) w') :
    Calls P f args (X.grow ⟨a.objs ++ (b.objs ++ (c.objs ++ n.objs)), n.drawn⟩) fun e w'' => e = .returned v ∧ ∃ m : Junk, w'' = X.grow ⟨a.objs ++ (b.objs ++ (c.objs ++ m.objs)), m.drawn⟩ :=
  h.mono fun _ _ ⟨he, hm⟩ => ⟨he, by obtain ⟨m, rfl⟩ := hm; exact ⟨⟨n.objs ++ m.objs, m.drawn⟩, by simp [grow_grow, Array.append_assoc]⟩⟩
theorem wpFlowX_quiets (qs : List Nat) {n : Nat} {listed : Array Bool} {a : Act} {w : World} (hn : decide (qs.length ≤ n) = true)
    (hB : (Region.noSelect l.toArray && Region.flowLexX .any l.toArray esc qs listed && envOk qs l.length && Region.closedB .any l.toArray listed) = true) (hD : envDsts qs l.toArray a.tmps.size = true)
    (hQ : ∀ c a w d v, Q (.panic c) (Act.put a d v) w → Q (.panic c) a w) (V : Act)
    (hq : ∀ A, Hid (A = V) → ∀ δ', wpQuiet P l.toArray (fun w' => ∃ n, w' = (w.grow δ').grow n) (fun a' => a' = A) (pickOps l qs) a)
    (h : wpFlowX P .any l.toArray esc Q (n - qs.length) (Region.listAll listed qs) V w) : wpFlowX P .any l.toArray esc Q n listed a w := by
  simp only [Bool.and_eq_true] at hB
  obtain ⟨⟨⟨hsel, hlex⟩, hok⟩, hcl⟩ := hB
  obtain ⟨f, rfl⟩ : ∃ f, n = qs.length + f := ⟨n - qs.length, by have := of_decide_eq_true hn; omega⟩
  rw [Nat.add_sub_cancel_left] at h
  exact wpFlowX_lex hQ hsel f qs listed a (closed_of_B hcl) h hlex (givesAll_of_quiet (H := fun w' => Grew w w') ⟨w, Grew.refl _⟩ qs (pickOps l qs) a (map_pick l qs hok) hD (fun Y ⟨n, hY⟩ => by subst hY; exact hq V (rfl : V = V) n))
theorem wpOp_of_list {k : Nat} (hlt : k < l.length) {K : Act → World → Prop} {a : Act} {w : World} (h1 : wpList P l.toArray (Exit.then K Q) (pickOps l [k]) a w) : wpOp P l.toArray Q k K a w := by
  rw [pickOps_cons, pick1_eq l k _ hlt, pickOps_nil] at h1
  unfold wpOp
  simp only [List.getElem?_toArray, List.getElem?_eq_getElem hlt]
  unfold wpList at h1
  split at h1
  · rename_i hw
    rw [if_pos hw]
    rcases h1 with h1 | ⟨h1, a2, w2, h2⟩
    · exact .inl (by
        unfold Oper.wp at *
        generalize (execOp a.eval l[k]).run P w = r at *
        cases r with
        | ok n w'' =>
          cases n <;> simp only [Oper.upon] at h1 ⊢ <;> first
            | exact h1
            | exact Calls.mono h1 (fun e w'' he => by cases e <;> exact he)
        | halt x w'' => cases x <;> simp only [Oper.upon] at h1 ⊢ <;> exact h1)
    · exact .inr ⟨h1, a2, w2, h2⟩
  · rename_i hw
    rw [if_neg hw]
    exact h1
/-- The one step that is ready. -/
theorem wpFlowX_one {x : Nat} {listed : Array Bool} {a : Act} {w : World} (k : Nat) (hx : decide (0 < x) = true) (hr : Region.ready .any l.toArray listed = [k]) (hk : decide (k < l.length) = true) (he : esc.contains k = false)
    (h : ∀ δ, wpList P l.toArray (Exit.then (fun a' w'' => Grew (w.grow δ) w'' ∧ wpFlowX P .any l.toArray esc Q (x - 1) (listed.setIfInBounds k true) a' w'') Q) (pickOps l [k]) a (w.grow δ)) : wpFlowX P .any l.toArray esc Q x listed a w := by
  obtain ⟨f, rfl⟩ : ∃ f, x = f + 1 := ⟨x - 1, by have := of_decide_eq_true hx; omega⟩
  refine ⟨fun h0 => (by rw [hr] at h0; cases h0), fun i hi w' hg => ?_⟩
  rw [hr, List.mem_singleton] at hi
  subst hi
  obtain ⟨δ, rfl⟩ := hg
  simp only [he, Bool.false_eq_true, if_false]
  exact wpOp_of_list (of_decide_eq_true hk) (h δ)
/-- One of two steps that are ready, in some world behind. -/
def wpFlowXS (P : Program) (l : List Oper) (esc : List Nat) (Q : Exit → Act → World → Prop) (x : Nat) (listed : Array Bool) (k : Nat) (a : Act) (w : World) : Prop :=
  ∀ δ, wpList P l.toArray (Exit.then (fun a' w'' => Grew (w.grow δ) w'' ∧ wpFlowX P .any l.toArray esc Q x (listed.setIfInBounds k true) a' w'') Q) (pickOps l [k]) a (w.grow δ)
theorem wpFlowX_two {x : Nat} {listed : Array Bool} {a : Act} {w : World} (k m : Nat) (hx : decide (0 < x) = true) (hr : Region.ready .any l.toArray listed = [k, m]) (hk : decide (k < l.length ∧ m < l.length) = true) (he : (esc.contains k || esc.contains m) = false)
    (h1 : wpFlowXS P l esc Q (x - 1) listed k a w) (h2 : wpFlowXS P l esc Q (x - 1) listed m a w) : wpFlowX P .any l.toArray esc Q x listed a w := by
  obtain ⟨f, rfl⟩ : ∃ f, x = f + 1 := ⟨x - 1, by have := of_decide_eq_true hx; omega⟩
  have hk := of_decide_eq_true hk
  simp only [Bool.or_eq_false_iff] at he
  refine ⟨fun h0 => (by rw [hr] at h0; cases h0), fun i hi w' hg => ?_⟩
  rw [hr] at hi
  simp only [List.mem_cons, List.not_mem_nil, or_false] at hi
  obtain ⟨δ, rfl⟩ := hg
  rcases hi with rfl | rfl
  · simp only [he.1, Bool.false_eq_true, if_false]
    exact wpOp_of_list hk.1 (h1 δ)
  · simp only [he.2, Bool.false_eq_true, if_false]
    exact wpOp_of_list hk.2 (h2 δ)
/-- A step that writes into what is the call's own: behind it nothing comes meanwhile. -/
theorem wpFlowX_esc {x : Nat} {listed : Array Bool} {a : Act} {w : World} (k : Nat) (hx : decide (0 < x) = true) (hr : Region.ready .any l.toArray listed = [k]) (hk : decide (k < l.length) = true) (he : esc.contains k = true)
    (h : ∀ δ, wpList P l.toArray (Exit.then (fun a' w'' => wpAny P .any l.toArray Q (x - 1) (listed.setIfInBounds k true) a' w'') Q) (pickOps l [k]) a (w.grow δ)) : wpFlowX P .any l.toArray esc Q x listed a w := by
  obtain ⟨f, rfl⟩ : ∃ f, x = f + 1 := ⟨x - 1, by have := of_decide_eq_true hx; omega⟩
  refine ⟨fun h0 => (by rw [hr] at h0; cases h0), fun i hi w' hg => ?_⟩
  rw [hr, List.mem_singleton] at hi
  subst hi
  obtain ⟨δ, rfl⟩ := hg
  simp only [he, if_true]
  exact wpOp_of_list (of_decide_eq_true hk) (h δ)
theorem wpAny_one {x : Nat} {listed : Array Bool} {a : Act} {w : World} (k : Nat) (hx : decide (0 < x) = true) (hr : Region.ready .any l.toArray listed = [k]) (hk : decide (k < l.length) = true)
    (h : wpList P l.toArray (Exit.then (fun a' w'' => wpAny P .any l.toArray Q (x - 1) (listed.setIfInBounds k true) a' w'') Q) (pickOps l [k]) a w) : wpAny P .any l.toArray Q x listed a w := by
  obtain ⟨f, rfl⟩ : ∃ f, x = f + 1 := ⟨x - 1, by have := of_decide_eq_true hx; omega⟩
  refine ⟨fun h0 => (by rw [hr] at h0; cases h0), fun i hi => ?_⟩
  rw [hr, List.mem_singleton] at hi
  subst hi
  exact wpOp_of_list (of_decide_eq_true hk) h
theorem wpAny_end {x : Nat} {listed : Array Bool} {a : Act} {w : World} (hx : decide (x = 0) = true) (hr : (Region.ready .any l.toArray listed).isEmpty = true) (h : Q .normal a w) : wpAny P .any l.toArray Q x listed a w := by
  obtain rfl := of_decide_eq_true hx
  exact ⟨by simpa using hr, h⟩
theorem wp_region_flowX (esc : List Nat) {id : Nat} {a : Act} {w : World} (hm : P.follows .mixedOrders = true) (h : ∀ δ, wpFlowX P .any l.toArray esc Q l.length (Array.replicate l.length false) a (w.grow δ)) : (Code.region id l.toArray true).wp P Q a w := by
  refine wp_region_any hm (wpAny_of_flowX (esc := esc) _ _ _ _ ?_)
  have h1 := h ⟨#[], w.drawn + 1⟩
  rw [← drew_is_grow] at h1
  simpa using h1
end
end Go
/- The world of a goal made opaque. -/
namespace Go.Proofs.Ytnhcamklammcdaa
set_option linter.unusedVariables false
set_option linter.unusedSimpArgs false
open Go.RowKit
theorem wpList_abs {P : Program} {ops : Array Oper} {Q : Exit → Act → World → Prop} {l : List Oper} {a : Act} {X : World} (h : ∀ Y, Y = X → wpList P ops Q l a Y) : wpList P ops Q l a X := h X rfl
theorem Calls_abs {P : Program} {f : FuncId} {args : Array Value} {X : World} {R : Ending → World → Prop} (h : ∀ Y, Y = X → Calls P f args Y R) : Calls P f args X R := h X rfl
theorem code_abs {P : Program} {c : Code} {Q : Exit → Act → World → Prop} {a : Act} {X : World} (h : ∀ Y, Y = X → Code.wp P c Q a Y) : Code.wp P c Q a X := h X rfl
theorem exit_abs {Q : Exit → Act → World → Prop} {e : Exit} {a : Act} {X : World} (h : ∀ Y, Y = X → Q e a Y) : Q e a X := h X rfl
theorem flow_abs {P : Program} {md : Region.Mode} {ops : Array Oper} {Q : Exit → Act → World → Prop} {f : Nat} {li : Array Bool} {a : Act} {X : World} (h : ∀ Y, Y = X → wpFlow P md ops Q f li a Y) : wpFlow P md ops Q f li a X := h X rfl
theorem envR_abs {P : Program} {md : Region.Mode} {ops : Array Oper} {H : World → Prop} {Q : Exit → Act → World → Prop} {f : Nat} {li : Array Bool} {a : Act} {X : World} (h : ∀ Y, Y = X → wpEnvR P md ops H Q f li a Y) : wpEnvR P md ops H Q f li a X := h X rfl
theorem flowX_abs {P : Program} {md : Region.Mode} {ops : Array Oper} {esc : List Nat} {Q : Exit → Act → World → Prop} {f : Nat} {li : Array Bool} {a : Act} {X : World} (h : ∀ Y, Y = X → wpFlowX P md ops esc Q f li a Y) : wpFlowX P md ops esc Q f li a X := h X rfl
end Go.Proofs.Ytnhcamklammcdaa
/- append, of whatever is shown, nothing too; a step whose guard holds. No program in sight. -/
namespace Go
set_option linter.unusedVariables false
set_option linter.unusedSimpArgs false
open Go.RowKit
set_option maxRecDepth 100000
theorem wpList_unguard {P : Program} {ops : Array Oper} {Q : Exit → Act → World → Prop} {d : Option Tmp} {op : Op} {t : TypeId} {p : String} {af : Array Edge} {j : Nat} {b : Bool} {rest : List Oper} {a : Act} {w : World}
    (hw : yielded ops a.tmps j = some b) (h : wpList P ops Q (⟨d, op, t, p, af, none⟩ :: rest) a w) : wpList P ops Q (⟨d, op, t, p, af, some (j, b)⟩ :: rest) a w := by
  unfold wpList at h ⊢
  have h1 : Region.wanted ⟨d, op, t, p, af, some (j, b)⟩ (yielded ops a.tmps) = true := by simp [Region.wanted, hw]
  have h2 : Region.wanted ⟨d, op, t, p, af, none⟩ (yielded ops a.tmps) = true := rfl
  rw [if_pos h1]
  rw [if_pos h2] at h
  exact h
theorem _root_.Go.Calls.pure_of_g5 {P : Program} {f : FuncId} {args : Array Value} {X : World} {a b c e n : Junk} {v : Value}
    (h : Calls P f args (X.grow ⟨a.objs ++ (b.objs ++ (c.objs ++ (e.objs ++ n.objs))), n.drawn⟩) fun e' w' => e' = .returned v ∧ Grew (X.grow ⟨a.objs ++ (b.objs ++ (c.objs ++ (e.objs ++ n.objs))), n.drawn⟩) w') :
    Calls P f args (X.grow ⟨a.objs ++ (b.objs ++ (c.objs ++ (e.objs ++ n.objs))), n.drawn⟩) fun e' w'' => e' = .returned v ∧ ∃ m : Junk, w'' = X.grow ⟨a.objs ++ (b.objs ++ (c.objs ++ (e.objs ++ m.objs))), m.drawn⟩ :=
  h.mono fun _ _ ⟨he, hm⟩ => ⟨he, by obtain ⟨m, rfl⟩ := hm; exact ⟨⟨n.objs ++ m.objs, m.drawn⟩, by simp [grow_grow, Array.append_assoc]⟩⟩
section
variable {α : Type} {k : Nat} {f : α → List Value}
/-- append, of whatever is shown, nothing too. -/
theorem wpList_appendE2 {P : Program} {ops : Array Oper} {rest : List Oper} {o : Oper} {a : Act} {Q : Exit → Act → World → Prop} (hf : ∀ x, (f x).length = k) (hk : 0 < k) (hgd : o.guard = none) (s x : Operand) (t : TypeId)
    (ho : o.op = .call { callee := .builtin .append, args := #[s, x], argTypes := #[t, t] }) (e : TypeId) (i : TypeInfo) (z : Value) (bytes : Nat) (ht : P.underlying t = some (.slice e)) (hi : P.info? e = some i) (hz : i.zero = some z)
    (hsize : i.size = k) (hby : i.bytes = bytes) (hzs : z.cells.size = k) (h1 : ∀ x, ∀ u ∈ f x, u.oneCell' = true) (A X : World) (base : Nat) (v y : Value) (hs : a.eval s = v) (hy : a.eval x = y) (xs news : List α) (hg : Grew A X) (hA : A.heap.size ≤ base) (hX : base ≤ X.heap.size) (hown : OwnE k f X base e v xs) (hsh : ShowsE k f X y news)
    (h63 : xs.length + news.length ≤ maxLen) (hbytes : (xs.length + news.length) * bytes ≤ 140737488355328)
    (h : ∀ v' w', OwnE k f w' base e v' (xs ++ news) → Grew A w' → wpList P ops Q rest (a.put o.dst v') w') : wpList P ops Q (o :: rest) a X := by
  rcases hsh with ⟨b, of, c, rfl, hc, hb, hr⟩ | ⟨p, c, rfl, rfl⟩
  · rcases Nat.eq_zero_or_pos news.length with h0 | hp
    · obtain rfl : news = [] := List.length_eq_zero_iff.1 h0
      have hblock := hown.block
      obtain ⟨v', w', hrun, h2, h3, _⟩ := run_append_own (P := P) X base t o.type e i z k bytes ht hi hz hsize hby hzs hk v xs.length (xs.flatMap f) hown ⟨b, of, none⟩ 0 c [] (by simp) (by simp) (by simp) h63 hbytes hX
      refine Lib.wpList_append_run X hgd s x t t ho v _ hs hy v' w' hrun (h v' w' ?_ (hg.grown h3 fun j hj => Nat.le_trans hA (hblock j hj).1))
      rw [List.append_nil] at h2 ⊢
      exact h2
    · exact wpList_appendE hf hk hgd s x t ho e i z bytes ht hi hz hsize hby hzs h1 A X base v _ hs hy xs news hg hA hX hown (.inl ⟨b, of, c, rfl, hc, hb, hr⟩) h63 hbytes hp fun v' w' a b _ => h v' w' a b
  · have hblock := hown.block
    cases p with
    | some ad =>
      obtain ⟨v', w', hrun, h2, h3, _⟩ := run_append_own (P := P) X base t o.type e i z k bytes ht hi hz hsize hby hzs hk v xs.length (xs.flatMap f) hown ad 0 c [] (by simp) (by simp) (by simp) h63 hbytes hX
      refine Lib.wpList_append_run X hgd s x t t ho v _ hs hy v' w' hrun (h v' w' ?_ (hg.grown h3 fun j hj => Nat.le_trans hA (hblock j hj).1))
      rw [List.append_nil] at h2 ⊢
      exact h2
    | none =>
      have hrun : (Builtin.append_ #[t, t] o.type #[v, .slice none 0 c]).run P X = .ok v X := by
        rcases hown.2 with ⟨rfl, h0⟩ | ⟨g, cap, cur, rfl, hb, hg, hn, hm, hs, hq⟩
        · simp [Builtin.append_, run_underlying ht, sizeOf, typeInfo, zeroValue, hi, hz, Question.forced, run_firstCells_none, Builtin.lenOf]
        · have hcl : ¬ (cap < xs.length) := by omega
          simp [Builtin.append_, run_underlying ht, sizeOf, typeInfo, zeroValue, hi, hz, Question.forced, run_firstCells_none, Builtin.lenOf, hcl, hn, storeCells]
      refine Lib.wpList_append_run X hgd s x t t ho v _ hs hy v X hrun (h v X ?_ hg)
      rw [List.append_nil]
      exact hown
end
end Go
namespace Go.Proofs.Ytnhcamklammcdaa
end Go.Proofs.Ytnhcamklammcdaa
/- The document's Put. -/
namespace Go.Proofs.Ytnhcamklammcdaa
set_option linter.unusedVariables false
set_option linter.unusedSimpArgs false
open Go.RowKit
set_option maxRecDepth 100000
set_option maxHeartbeats 3200000 in
theorem rput_w (n size : Nat) (hn : n < 18446744073709551616) (hs : size ≤ 8) (w : World) :
    Calls Try.prog 60 #[.int .u64 (n : Int), .int .i64 (size : Int)] w fun e w' => ∃ cap, e = .returned (.slice (some ⟨w.heap.size, 0, none⟩) size cap) ∧ OwnR w' w.heap.size 5 (.slice (some ⟨w.heap.size, 0, none⟩) size cap) (bys (putL n size)) ∧ Grew w w' := by
  have hsI : (size : Int) ≤ 8 := by omega
  have hs2 : size ≤ 1099511627776 := by omega
  have h8 : ¬ (8 : Int) < (size : Int) := by omega
  go_enter Try.func60, Try.ntmps60
  go_wp2
  have o0 := own_alloc w w.heap.size 5 (bys (zeros size)) (Nat.le_refl _) (by rw [bys_len, zeros_len]; simp [maxLen]; omega)
  rw [← putK_0 n, bys_len, putK_len] at o0
  have hz : w.alloc (.cells (bys (zeros size)).toArray 5) = w.alloc (.cells (bys (putK n size 0)).toArray 5) := by rw [putK_0]
  rw [hz]
  have O0 := Lib.hid o0
  have G0 := Lib.hid (show Grew w (w.alloc (.cells (bys (putK n size 0)).toArray 5)) from (by repeat (first | with_reducible exact Grew.refl _ | with_reducible apply Grew.alloc | with_reducible apply Grew.grow | with_reducible apply Grew.drew | with_reducible apply Grew.drewN)))
  obtain ⟨X, hX⟩ : ∃ X, w.alloc (.cells (bys (putK n size 0)).toArray 5) = X := ⟨_, rfl⟩
  rw [hX] at O0 G0 ⊢
  clear o0 hz hX
  go_loopw [0, 6] (fun a i wr => ∃ k j : Nat, k + j = size ∧ a = .int .u64 ((n / 256 ^ k : Nat) : Int) ∧ i = .int .i64 ((j : Int) - 1) ∧ OwnR wr w.heap.size 5 (.slice (some ⟨w.heap.size, 0, none⟩) size size) (bys (putK n size k)) ∧ Grew w wr) (fun _ i _ => (intOf i + 1).toNat)
  case atStart => exact ⟨0, size, by omega, by rw [Nat.pow_zero, Nat.div_one], rfl, O0.out, G0.out⟩
  case round =>
    obtain ⟨k, j, hk, rfl, rfl, ho, hg⟩ := hrel
    cases j with
    | succ m =>
      rw [show (((m + 1 : Nat) : Int) - 1) = (m : Int) by omega]
      have hm : size - 1 - k = m := by omega
      have c1 := own_cell ho m (by rw [bys_len, putK_len]; omega)
      have f1 := own_frozen ho m
      have hgs : w.heap.size < wr.heap.size := (ho.block _ rfl).2
      have hmI : (m : Int) < (size : Int) := by omega
      have hm0 : (0 : Int) ≤ (m : Int) := by omega
      have hd : n / 256 ^ k / 256 = n / 256 ^ (k + 1) := by rw [Nat.div_div_eq_div_mul, ← Nat.pow_succ]
      have s1 := own_stored ho (size - 1 - k) (.int .u8 ((n / 256 ^ k % 256 : Nat) : Int))
      rw [bys_set, putK_step n size k (by omega), hm] at s1
      have hx : n / 256 ^ k < 18446744073709551616 := Nat.lt_of_le_of_lt (Nat.div_le_self _ _) hn
      obtain ⟨x, hxx⟩ : ∃ x, n / 256 ^ k = x := ⟨_, rfl⟩
      rw [hxx] at hd hx s1 ⊢
      have S1 := Lib.hid s1
      have HD := Lib.hid hd
      have HK := Lib.hid hk
      have HG := Lib.hid hg
      have hxI : (x : Int) < 18446744073709551616 := by omega
      clear ho hg O0 G0 hxx hd s1 hx hm
      go_wp2
      have hv : (x : Int) % 256 = ((x % 256 : Nat) : Int) := by omega
      have hv2 : (x : Int) / 256 = ((x / 256 : Nat) : Int) := by omega
      simp only [hv, hv2, HD.out]
      exact ⟨⟨k + 1, m, by have := HK.out; omega, rfl, by go_num, S1.out.1, HG.out.grown S1.out.2 (fun z hz => by cases hz; exact Nat.le_refl _)⟩, by simp only [intOf]; omega⟩
    | zero =>
      have hge : ¬ ((0 : Int) ≤ ((0 : Nat) : Int) - 1) := by omega
      obtain rfl : k = size := by omega
      rw [putK_all] at ho
      have HO := Lib.hid ho
      have HG := Lib.hid hg
      clear ho hg O0 G0 hk
      go_wp2
      go_ret
      exact ⟨_, rfl, HO.out, HG.out⟩
end Go.Proofs.Ytnhcamklammcdaa
/- mmr's Leaf, text, and the document's. -/
namespace Go.Proofs.Ytnhcamklammcdaa
open Go.RowKit
set_option maxRecDepth 100000
set_option linter.unusedVariables false
set_option linter.unusedSimpArgs false
/-- A total of one leaf. -/
def Tot.leaf (h : Idb) (w : Wd) : Tot := ⟨h, w, 1, by decide, by decide⟩
set_option maxHeartbeats 1600000 in
theorem leaf_w (h : Idb) (x : Wd) (w : World) :
    Calls Try.prog 22 #[.agg (iv h.l), .agg (wv x.n)] w fun e w' => e = .returned (Tot.leaf h x).v ∧ Grew w w' := by
  have hh := h.len
  go_enter Try.func22, Try.ntmps22
  go_wp2
  refine bodyPost_ret (v := (Tot.leaf h x).v) (tot_result Try.results22 _ rfl (by simp [go_sem]; rfl) hh) rfl ⟨rfl, (by repeat (first | with_reducible exact Grew.refl _ | with_reducible apply Grew.alloc | with_reducible apply Grew.grow | with_reducible apply Grew.drew | with_reducible apply Grew.drewN))⟩
set_option maxHeartbeats 1600000 in
theorem rleaf_w (h : Idb) (x : Wd) (w : World) :
    Calls Try.prog 23 #[.agg (iv h.l), .agg (wv x.n)] w fun e w' => e = .returned (Tot.leaf h x).v ∧ Grew w w' := by
  have hh := h.len
  go_enter Try.func23, Try.ntmps23
  go_wp2
  refine bodyPost_ret (v := (Tot.leaf h x).v) (tot_result Try.results23 _ rfl (by simp [go_sem]; rfl) hh) rfl ⟨rfl, (by repeat (first | with_reducible exact Grew.refl _ | with_reducible apply Grew.alloc | with_reducible apply Grew.grow | with_reducible apply Grew.drew | with_reducible apply Grew.drewN))⟩
/-- A number of leaves, as it is put. -/
def num64 (n : Int) : Nat := (n % 18446744073709551616).toNat
theorem num64_eq (n : Int) : IntKind.u64.wrap n = ((num64 n : Nat) : Int) := by rw [IntKind.wrap_u64]; unfold num64; omega
theorem num64_lt (n : Int) : num64 n < 18446744073709551616 := by unfold num64; omega
/-- A total's bytes. -/
def Tot.text (t : Tot) : List Nat := t.h.l ++ (t.w.id.l ++ putL (num64 t.n) 4)
theorem Tot.text_len (t : Tot) : t.text.length = 68 := by unfold Tot.text; rw [List.length_append, List.length_append, putL_len, t.h.len, t.w.id.len]
theorem Tot.text_lt (t : Tot) : ∀ c ∈ t.text, c < 256 := by
  intro c hc
  unfold Tot.text at hc
  rcases List.mem_append.1 hc with hc | hc
  · exact t.h.lt c hc
  · rcases List.mem_append.1 hc with hc | hc
    · exact t.w.id.lt c hc
    · exact putL_lt _ _ c hc
theorem shows_row {w : World} {g o n : Nat} {l : List Nat} {C : Array Value} (hg : g < w.heap.size) (h : w.rowAt g = C) (hl : ∀ j u, (bys l)[j]? = some u → C[o + j]? = some u) (hn : l.length = n) : Shows w (.slice (some ⟨g, o, none⟩) n n) (bys l) :=
  .inl ⟨g, o, n, by rw [bys_len, hn], hg, fun j u hj => by rw [cell_rowAt, h]; exact hl j u hj⟩
theorem mtext_cat (a b c : List Nat) (x y z : Value) (X : World) (δ ε : Junk) (ha : a.length = 32) (hb : b.length = 32) (hc : c.length = 4) (h1 : Shows X x (bys a)) (h2 : Shows X y (bys b)) (h3 : Shows X z (bys c)) :
    Calls Try.prog 56 #[.slice (some ⟨X.heap.size + δ.n, 0, none⟩) 3 3] (((X.grow δ).alloc (.cells #[x, y, z] 65)).grow ε)
      fun e w' => ∃ v, e = .returned v ∧ OwnR w' X.heap.size 5 v (bys (a ++ (b ++ c))) ∧ Grew (((X.grow δ).alloc (.cells #[x, y, z] 65)).grow ε) w' := by
  have sz := size_grow X δ
  have o := shows_alloc (X.grow δ) [x, y, z] 65 3
  rw [sz] at o
  have g : Grew X (((X.grow δ).alloc (.cells #[x, y, z] 65)).grow ε) := (by repeat (first | with_reducible exact Grew.refl _ | with_reducible apply Grew.alloc | with_reducible apply Grew.grow | with_reducible apply Grew.drew | with_reducible apply Grew.drewN))
  have g' : Grew ((X.grow δ).alloc (.cells #[x, y, z] 65)) (((X.grow δ).alloc (.cells #[x, y, z] 65)).grow ε) := ⟨ε, rfl⟩
  have hf : ([a, b, c] : List (List Nat)).flatten = a ++ (b ++ c) := by simp
  refine (concat_w [a, b, c] [x, y, z] _ _ rfl (Shows.grew o g') ?_ (by rw [hf]; simp [ha, hb, hc]) (by simp)).mono ?_
  · intro k hk
    have hk : k < 3 := hk
    match k, hk with
    | 0, _ => exact h1.grew g
    | 1, _ => exact h2.grew g
    | 2, _ => exact h3.grew g
  · rintro e w' ⟨v, rfl, ho, hg⟩
    rw [hf] at ho
    exact ⟨v, rfl, ho.base g.size, hg⟩
set_option maxHeartbeats 3200000 in
theorem mtext_w (t : Tot) (w : World) :
    Calls Try.prog 41 #[.agg (ta t.h.l t.w.n t.n)] w fun e w' => ∃ v, e = .returned v ∧ OwnR w' w.heap.size 5 v (bys t.text) ∧ Grew w w' := by
  have hh := t.h.len
  have hb := t.w.id.len
  have hn := num64_eq t.n
  go_enter Try.func41, Try.ntmps41
  go_wp2_with (go_at_call 57; refine (bytes_w t.w _).mono ?_; rintro e w' ⟨rfl, δ, rfl⟩)
  refine wp_region_flow (by kernel_rfl) ?_
  intro δf
  have r1 : ((((w.alloc (Obj.cells (ta t.h.l t.w.n t.n) 29)).grow δ).alloc (Obj.cells (iv t.w.id.l) 24)).grow δf).rowAt w.heap.size = ta t.h.l t.w.n t.n := by simp [go_sem]
  have r2 : ((((w.alloc (Obj.cells (ta t.h.l t.w.n t.n) 29)).grow δ).alloc (Obj.cells (iv t.w.id.l) 24)).grow δf).rowAt (w.heap.size + 1 + δ.n) = iv t.w.id.l := by simp [go_sem]
  have g0 : Grew w ((((w.alloc (Obj.cells (ta t.h.l t.w.n t.n) 29)).grow δ).alloc (Obj.cells (iv t.w.id.l) 24)).grow δf) := (by repeat (first | with_reducible exact Grew.refl _ | with_reducible apply Grew.alloc | with_reducible apply Grew.grow | with_reducible apply Grew.drew | with_reducible apply Grew.drewN))
  have z0 : ((((w.alloc (Obj.cells (ta t.h.l t.w.n t.n) 29)).grow δ).alloc (Obj.cells (iv t.w.id.l) 24)).grow δf).heap.size = w.heap.size + 1 + δ.n + 1 + δf.n := by simp
  refine flow_abs ?_
  intro Y hY
  rw [← hY] at r1 r2 g0 z0
  clear hY
  obtain ⟨g2, hg2⟩ : ∃ g2, w.heap.size + 1 + δ.n = g2 := ⟨_, rfl⟩
  rw [hg2] at r2 ⊢
  have hlt : w.heap.size < Y.heap.size := by omega
  have hlt2 : g2 < Y.heap.size := by omega
  have c1 : Y.cell? ⟨w.heap.size, 36, none⟩ = some (.int .i64 t.n) := by rw [cell_rowAt, r1]; exact ta_n _ _ _ hh
  have s1 : Shows Y (.slice (some ⟨w.heap.size, 0, none⟩) 32 32) (bys t.h.l) := shows_row hlt r1 (fun j u hj => by
    have hj2 : j < 32 := by have := (List.getElem?_eq_some_iff.1 hj).1; rwa [bys_len, hh] at this
    unfold ta tl
    rw [Nat.zero_add, List.getElem?_toArray, List.getElem?_append_left (by rw [bys_len, hh]; exact hj2)]; exact hj) hh
  have s2 : Shows Y (.slice (some ⟨g2, 0, none⟩) 32 32) (bys t.w.id.l) := shows_row hlt2 r2 (fun j u hj => by rw [Nat.zero_add, ← bys_iv, List.getElem?_toArray]; exact hj) hb
  have S1 := Lib.hid s1
  have S2 := Lib.hid s2
  have G0 := Lib.hid g0
  have NL := num64_lt t.n
  obtain ⟨m, hm⟩ : ∃ m, num64 t.n = m := ⟨_, rfl⟩
  have HT : t.text = t.h.l ++ (t.w.id.l ++ putL m 4) := by rw [← hm]; rfl
  rw [hm] at hn NL
  have HTT := Lib.hid HT
  clear s1 s2 g0 r1 r2 hg2 hm HT z0
  apply wpFlow_quiets [0,1,2,3,4,5] (by decide +kernel) (by decide +kernel) (by kernel_rfl) (by intro _ _ _ d _ h; cases d <;> exact h) _
  · intro A hA δ'
    simp only [pickOps_cons, pickOps_nil, pick1_zero, pick1_succ]
    repeat (go_big_quiet_step ((fail)))
    exact wpQuiet_nil hA.out.symm
  refine wpFlow_one 6 (by decide +kernel) (by kernel_rfl) (by kernel_rfl) ?_
  refine wpFlowS_intro ?_
  simp only [pickOps_cons, pickOps_nil, pick1_zero, pick1_succ]
  intro δf
  go_wp2_with (go_at_call 58; refine (put_w m 4 NL (by omega) _).mono ?_; rintro e W1 ⟨cap, rfl, ho, hg⟩)
  refine ⟨(by first | assumption | (simp only [grow_grow, Array.append_assoc]; assumption) | exact Grew.refl _ | (simp only [grow_grow, Array.append_assoc]; exact (by repeat (first | with_reducible exact Grew.refl _ | with_reducible apply Grew.alloc | with_reducible apply Grew.grow | with_reducible apply Grew.drew | with_reducible apply Grew.drewN))) | exact (by repeat (first | with_reducible exact Grew.refl _ | with_reducible apply Grew.alloc | with_reducible apply Grew.grow | with_reducible apply Grew.drew | with_reducible apply Grew.drewN))), ?_⟩
  have g1 := Lib.hid ((show Grew Y _ from (by repeat (first | with_reducible exact Grew.refl _ | with_reducible apply Grew.alloc | with_reducible apply Grew.grow | with_reducible apply Grew.drew | with_reducible apply Grew.drewN))).trans hg)
  have s3 := ho.shows
  have hsz := size_grow Y δf
  rw [hsz] at s3
  obtain ⟨b3, hb3⟩ : ∃ b3, Y.heap.size + δf.n = b3 := ⟨_, rfl⟩
  rw [hb3] at s3 ⊢
  have S3 := Lib.hid s3
  clear ho hg s3 hsz hb3 hlt hlt2 c1 hn
  refine wpFlow_one 7 (by decide +kernel) (by kernel_rfl) (by kernel_rfl) ?_
  refine wpFlowS_intro ?_
  simp only [pickOps_cons, pickOps_nil, pick1_zero, pick1_succ]
  intro δf
  go_wp2_with (fail)
  refine ⟨(by first | assumption | (simp only [grow_grow, Array.append_assoc]; assumption) | exact Grew.refl _ | (simp only [grow_grow, Array.append_assoc]; exact (by repeat (first | with_reducible exact Grew.refl _ | with_reducible apply Grew.alloc | with_reducible apply Grew.grow | with_reducible apply Grew.drew | with_reducible apply Grew.drewN))) | exact (by repeat (first | with_reducible exact Grew.refl _ | with_reducible apply Grew.alloc | with_reducible apply Grew.grow | with_reducible apply Grew.drew | with_reducible apply Grew.drewN))), ?_⟩
  refine wpFlow_one 8 (by decide +kernel) (by kernel_rfl) (by kernel_rfl) ?_
  refine wpFlowS_intro ?_
  simp only [pickOps_cons, pickOps_nil, pick1_zero, pick1_succ]
  intro δf
  go_wp2_with (go_at_call 56; refine (mtext_cat t.h.l t.w.id.l (putL m 4) _ _ _ W1 _ _ hh hb (putL_len _ _) (S1.out.grew g1.out) (S2.out.grew g1.out) S3.out).mono ?_; rintro e W2 ⟨v, rfl, ho, hg⟩)
  refine ⟨(by first | assumption | (simp only [grow_grow, Array.append_assoc]; assumption) | exact Grew.refl _ | (simp only [grow_grow, Array.append_assoc]; exact (by repeat (first | with_reducible exact Grew.refl _ | with_reducible apply Grew.alloc | with_reducible apply Grew.grow | with_reducible apply Grew.drew | with_reducible apply Grew.drewN))) | exact (by repeat (first | with_reducible exact Grew.refl _ | with_reducible apply Grew.alloc | with_reducible apply Grew.grow | with_reducible apply Grew.drew | with_reducible apply Grew.drewN))), ?_⟩
  have g2' := Lib.hid ((show Grew W1 _ from (by repeat (first | with_reducible exact Grew.refl _ | with_reducible apply Grew.alloc | with_reducible apply Grew.grow | with_reducible apply Grew.drew | with_reducible apply Grew.drewN))).trans hg)
  rw [← HTT.out] at ho
  have HO := Lib.hid (ho.base (show w.heap.size ≤ _ from Nat.le_trans G0.out.size g1.out.size))
  clear ho hg
  refine wpFlow_one 9 (by decide +kernel) (by kernel_rfl) (by kernel_rfl) ?_
  refine wpFlowS_intro ?_
  simp only [pickOps_cons, pickOps_nil, pick1_zero, pick1_succ]
  intro δf
  go_wp2_with (fail)
  refine ⟨(by first | assumption | (simp only [grow_grow, Array.append_assoc]; assumption) | exact Grew.refl _ | (simp only [grow_grow, Array.append_assoc]; exact (by repeat (first | with_reducible exact Grew.refl _ | with_reducible apply Grew.alloc | with_reducible apply Grew.grow | with_reducible apply Grew.drew | with_reducible apply Grew.drewN))) | exact (by repeat (first | with_reducible exact Grew.refl _ | with_reducible apply Grew.alloc | with_reducible apply Grew.grow | with_reducible apply Grew.drew | with_reducible apply Grew.drewN))), ?_⟩
  refine wpFlow_end (by decide +kernel) (by kernel_rfl) ?_
  intro δf
  go_wp2
  go_ret
  exact ⟨_, rfl, HO.out.grew (by repeat (first | with_reducible exact Grew.refl _ | with_reducible apply Grew.alloc | with_reducible apply Grew.grow | with_reducible apply Grew.drew | with_reducible apply Grew.drewN)), (G0.out.trans (g1.out.trans g2'.out)).trans (by repeat (first | with_reducible exact Grew.refl _ | with_reducible apply Grew.alloc | with_reducible apply Grew.grow | with_reducible apply Grew.drew | with_reducible apply Grew.drewN))⟩
theorem Tot.slices {Y : World} {t : Tot} {g g2 : Nat} (hlt : g < Y.heap.size) (hlt2 : g2 < Y.heap.size) (r1 : Y.rowAt g = ta t.h.l t.w.n t.n) (r2 : Y.rowAt g2 = iv t.w.id.l) :
    Shows Y (.slice (some ⟨g, 0, none⟩) 32 32) (bys t.h.l) ∧ Shows Y (.slice (some ⟨g2, 0, none⟩) 32 32) (bys t.w.id.l) ∧ Y.cell? ⟨g, 36, none⟩ = some (.int .i64 t.n) := by
  refine ⟨shows_row hlt r1 (fun j u hj => ?_) t.h.len, shows_row hlt2 r2 (fun j u hj => ?_) t.w.id.len, ?_⟩
  · have hj2 : j < 32 := by have := (List.getElem?_eq_some_iff.1 hj).1; rwa [bys_len, t.h.len] at this
    unfold ta tl
    rw [Nat.zero_add, List.getElem?_toArray, List.getElem?_append_left (by rw [bys_len, t.h.len]; exact hj2)]; exact hj
  · rw [Nat.zero_add, ← bys_iv, List.getElem?_toArray]; exact hj
  · rw [cell_rowAt, r1]; exact ta_n _ _ _ t.h.len
set_option maxHeartbeats 3200000 in
theorem mrtext_w (t : Tot) (w : World) :
    Calls Try.prog 43 #[.agg (ta t.h.l t.w.n t.n)] w fun e w' => ∃ v, e = .returned v ∧ OwnR w' w.heap.size 5 v (bys t.text) ∧ Grew w w' := by
  obtain ⟨ib, hi, hz, hsz, hby⟩ := info_b
  have hh := t.h.len
  have hb := t.w.id.len
  have hn := num64_eq t.n
  go_enter Try.func43, Try.ntmps43
  go_wp2_with (first | (go_at_call 59; refine (rbytes_w t.w _).mono ?_; rintro e w' ⟨rfl, δ, rfl⟩) | (at_builtin; refine stop_of ?_))
  unfold Stop
  refine wpList_abs ?_
  intro Y hY
  have r1 : Y.rowAt w.heap.size = ta t.h.l t.w.n t.n := by rw [hY]; simp [go_sem]
  have r2 : Y.rowAt (w.heap.size + 1 + δ.n) = iv t.w.id.l := by rw [hY]; simp [go_sem]
  have g0 : Grew w Y := by rw [hY]; exact (by repeat (first | with_reducible exact Grew.refl _ | with_reducible apply Grew.alloc | with_reducible apply Grew.grow | with_reducible apply Grew.drew | with_reducible apply Grew.drewN))
  have z0 : Y.heap.size = w.heap.size + 1 + δ.n + 1 := by rw [hY]; simp
  obtain ⟨g2, hg2⟩ : ∃ g2, w.heap.size + 1 + δ.n = g2 := ⟨_, rfl⟩
  rw [hg2] at r2 ⊢
  have hlt : w.heap.size < Y.heap.size := by omega
  have hlt2 : g2 < Y.heap.size := by omega
  obtain ⟨s1, s2, c1⟩ := Tot.slices hlt hlt2 r1 r2
  have NL := num64_lt t.n
  obtain ⟨m, hm⟩ : ∃ m, num64 t.n = m := ⟨_, rfl⟩
  have HT : t.text = t.h.l ++ (t.w.id.l ++ putL m 4) := by rw [← hm]; rfl
  rw [hm] at hn NL
  have HTT := Lib.hid HT
  have G0 := Lib.hid g0
  have S2 := Lib.hid s2
  have C1 := Lib.hid c1
  clear g0 r1 r2 hg2 hm HT z0 hY s2 c1
  refine wpList_append_shows rfl _ _ _ rfl Y.heap.size _ ib _ 1 under_bs hi hz hsz hby rfl _ _ rfl rfl [] (bys t.h.l) (OwnR.nil _ _ _) (by exact s1) (bys_one t.h.l) (by rw [bys_len, hh]; decide) (by rw [bys_len, hh]; decide) (Nat.le_refl _) ?_
  intro v1 w1 ho1 hgb
  have g1 : Grew Y w1 := (Grew.refl Y).grown hgb (fun k hk => by cases hk)
  rw [List.nil_append] at ho1
  have S2' := Lib.hid (S2.out.grew g1)
  have C1' := Lib.hid (g1.cell C1.out)
  have HO1 := Lib.hid ho1
  have G1 := Lib.hid g1
  clear ho1 hgb g1 S2 C1 s1
  go_wp2_with (at_builtin; refine stop_of ?_)
  unfold Stop
  refine wpList_append_shows rfl _ _ _ rfl Y.heap.size _ ib _ 1 under_bs hi hz hsz hby rfl _ _ rfl rfl (bys t.h.l) (bys t.w.id.l) (by exact HO1.out) (by exact S2'.out) (bys_one t.w.id.l) (by rw [bys_len, bys_len, hh, hb]; decide) (by rw [bys_len, bys_len, hh, hb]; decide) G1.out.size ?_
  intro v2 w2 ho2 hgb
  have hblock := HO1.out.block
  have g2' : Grew Y w2 := G1.out.grown hgb (fun k hk => (hblock k hk).1)
  have c2 : w2.cell? ⟨w.heap.size, 36, none⟩ = some (.int .i64 t.n) := (World.cell?_of_block (hgb.block _ (Nat.lt_of_lt_of_le hlt G1.out.size) (fun e => by have h5 : Y.heap.size ≤ w.heap.size := (hblock _ e.symm).1; omega))).trans C1'.out
  rw [← bys_append] at ho2
  have HO2 := Lib.hid ho2
  have G2 := Lib.hid g2'
  have hlt3 : w.heap.size < w2.heap.size := Nat.lt_of_lt_of_le hlt g2'.size
  clear ho2 hgb g2' hblock S2' C1'
  go_wp2_with (first | (go_at_call 60; refine (rput_w m 4 NL (by omega) _).mono ?_; rintro e w3 ⟨cap, rfl, ho, hg⟩) | (at_builtin; refine stop_of ?_))
  unfold Stop
  have sh := ho.shows
  refine wpList_appends rfl _ _ _ rfl _ ib _ 1 under_bs hi hz hsz hby rfl Y w3 _ _ rfl rfl _ (bys (putL m 4)) (G2.out.trans hg) (by exact HO2.out.grew hg) (by exact sh) (bys_one _) (by rw [bys_len, bys_len, List.length_append, hh, hb, putL_len]; decide) (by rw [bys_len, bys_len, List.length_append, hh, hb, putL_len]; decide) ?_
  intro v3 w4 ho3 hg3
  rw [← bys_append, List.append_assoc, ← HTT.out] at ho3
  have HO3 := Lib.hid (ho3.base G0.out.size)
  have G3 := Lib.hid (G0.out.trans hg3)
  clear ho3 hg3 sh ho hg
  go_wp2
  go_ret
  exact ⟨_, rfl, HO3.out, G3.out⟩
end Go.Proofs.Ytnhcamklammcdaa
