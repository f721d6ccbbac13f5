/- 'stepladderlaw07.LinkTwice' answers true for every slice of ids, id, int, id, int, int, without panicking, and what it was handed reads as before. Conditions: none. -/
import Derived.Test.YtinkdkcmmjfhoaaRows
import Derived.Test.YtinkdkcmmjfhoaaM6
/- The walk of LinkPaths. -/
namespace Go.Proofs.Ytinkdkcmmjfhoaa
set_option linter.unusedVariables false
set_option linter.unusedSimpArgs false
open Go.RowKit
theorem exit_abs {Q : Exit → Act → World → Prop} {e : Exit} {a : Act} {X : World} (h : ∀ Y, Y = X → Q e a Y) : Q e a X := h X rfl
theorem leads_in {ls : List Idb} {id x : Idb} {k : Nat} (prev : Idb) (hx : ls[k]? = some x) (h : x = id) : leads ls prev id = true := by
  subst h
  unfold leads
  rw [anyB_at hx (decide_eq_true rfl), Bool.or_true]
theorem leads_self (ls : List Idb) (p : Idb) : leads ls p p = true := by
  unfold leads
  rw [show ieq p.l p.l = true from decide_eq_true rfl, Bool.true_or]
set_option maxRecDepth 100000 in
set_option maxHeartbeats 6400000 in
theorem linkPaths_walk (q : Option Addr) (c : Nat) (l : List Idb) (hm : l.length ≤ maxLen) (i : Int) (r : Idb) (w : World) (hs : ShowsI w (.slice q l.length c) l) :
    Calls Try.prog 7 #[.slice q l.length c, .int .i64 i, .agg (iv r.l)] w fun e w' => e = .returned (.bool true) ∧ Grew w w' := by
  have HS := Lib.hid hs
  clear hs hm
  have hrl := r.len
  obtain ⟨N, hN⟩ : ∃ N, l.length = N := ⟨_, rfl⟩
  have HN := Lib.hid hN
  rw [hN] at HS ⊢
  clear hN
  by_cases h4 : ¬ (¬ 64 < (N : Int) ∧ ¬ i < 0 ∧ ¬ (N : Int) ≤ i)
  · have h5 : 64 < (N : Int) ∨ (¬ 64 < (N : Int) ∧ i < 0) ∨ (¬ 64 < (N : Int) ∧ ¬ i < 0 ∧ (N : Int) ≤ i) := by omega
    clear h4
    rcases h5 with h1 | ⟨h1, h2⟩ | ⟨h1, h2, h3⟩
    all_goals
      go_enter Try.func7, Try.ntmps7
      go_wp2_with (go_at_call 9; refine (awake_w _).mono ?_; rintro e w' ⟨rfl, δ, rfl⟩)
      go_ret
      exact ⟨rfl, (by repeat (first | with_reducible exact Grew.refl _ | with_reducible apply Grew.alloc | with_reducible apply Grew.grow | with_reducible apply Grew.drew | with_reducible apply Grew.drewN))⟩
  obtain ⟨h1, h2, h3⟩ : ¬ 64 < (N : Int) ∧ ¬ i < 0 ∧ ¬ (N : Int) ≤ i := by omega
  clear h4
  obtain ⟨j, rfl⟩ : ∃ j : Nat, i = (j : Int) := ⟨i.toNat, by omega⟩
  have hlen := HN.out
  obtain ⟨x, hx⟩ : ∃ x, l[j]? = some x := ⟨_, List.getElem?_eq_getElem (by omega)⟩
  have hxl := x.len
  have hok : pathOk l j = true := decide_eq_true (by omega)
  have hok2 : pathOk (leavesL l) j = true := by rw [pathOk_leaves]; exact hok
  have hof : pathOf (leavesL l) j = path (leavesL l) j := by unfold pathOf; rw [if_pos hok2]; rfl
  have CP := Lib.hid (fun W (g : Grew w W) => lpath_w l j (.slice q N c) W (by omega) (HS.out.grew g))
  rw [hok, hof] at CP
  have hpl := path_len (leavesL l) j (by rw [leavesL_len]; omega)
  have hsl := side_len (leavesL l).length j (by rw [leavesL_len]; omega) (by rw [leavesL_len]; omega)
  have hck := chk_path (leavesL l) j _ (by rw [leavesL_len]; omega) (leavesL_get l j x hx)
  rw [leavesL_len, hlen] at hck hsl
  have CR := Lib.hid (fun W (g : Grew w W) => lroot_w l (.slice q N c) W (by omega) (HS.out.grew g))
  have CL1 := Lib.hid (fun W (g : Grew w W) => leads_w l r x (.slice q N c) W (by omega) (HS.out.grew g))
  have CL2 := Lib.hid (fun W (g : Grew w W) => leads_w l r r (.slice q N c) W (by omega) (HS.out.grew g))
  rw [leads_in r hx rfl] at CL1
  rw [leads_self] at CL2
  have hrl2 := (root (leavesL l)).len
  obtain ⟨R, hR⟩ : ∃ R, root (leavesL l) = R := ⟨_, rfl⟩
  rw [hR] at CR hck hrl2
  obtain ⟨ps, hps⟩ : ∃ ps, path (leavesL l) j = ps := ⟨_, rfl⟩
  rw [hps] at CP hck hpl
  have hp64 : ps.length ≤ 100000 := by rw [hpl, leavesL_len, hlen]; omega
  have hhs := HS.out
  rw [← HN.out] at hhs
  obtain ⟨b, o, rfl, _, hcc, hb, hat⟩ := showsI_some hhs (by omega)
  have QL := Lib.hid (fun W (g : Grew w W) δ => load_idg (World.rangeAt.grew (hat j x hx) g) δ)
  have C1 := Lib.hid hck
  clear hhs hck hat hR hps hx hok hok2 hof hcc hpl hsl hlen
  go_enter Try.func7, Try.ntmps7
  go_wp2_with (first | (go_at_call 9; refine (awake_w _).mono ?_; rintro e w' ⟨rfl, δ, rfl⟩) | (go_at_call 14; refine stop_of ?_))
  unfold Stop
  refine Calls_abs ?_
  intro X hX
  have gX : Grew w X := by rw [hX]; exact (by repeat (first | with_reducible exact Grew.refl _ | with_reducible apply Grew.alloc | with_reducible apply Grew.grow | with_reducible apply Grew.drew | with_reducible apply Grew.drewN))
  have rX : X.rowAt w.heap.size = iv r.l := by rw [hX]; simp [go_sem]
  have zX : w.heap.size < X.heap.size := by rw [hX]; simp; omega
  clear hX
  refine (CP.out X gX).mono ?_
  rintro e W1 ⟨v1, rfl, ho, hg⟩
  have PS := Lib.hid (ho.shows Idb.cs_len)
  have G1 := Lib.hid (gX.trans hg)
  have r1 : W1.rowAt w.heap.size = iv r.l := by rw [Grew.rowAt hg _ zX]; exact rX
  have z1 : w.heap.size < W1.heap.size := Nat.lt_of_lt_of_le zX hg.size
  have CC := Lib.hid (fun W (g : Grew W1 W) => lcheck_w R N j x ps v1 W (PS.out.grew g) hp64)
  rw [C1.out] at CC
  have q1 := QL.out W1 G1.out
  clear ho hg gX rX zX CP QL C1 PS
  go_wp2
  refine wp_region_flow (by kernel_rfl) ?_
  intro δf
  apply wpFlow_quiets [0,1,2] (by decide +kernel) (by decide +kernel) (by kernel_rfl) (by intro _ _ _ d _ h; cases d <;> exact h) _
  · intro A hA δ'
    simp only [pickOps_cons, pickOps_nil, pick1_zero, pick1_succ]
    repeat (go_big_quiet_step ((fail)))
    exact wpQuiet_nil hA.out.symm
  apply wpFlow_quiets [3] (by decide +kernel) (by decide +kernel) (by kernel_rfl) (by intro _ _ _ d _ h; cases d <;> exact h) _
  · intro A hA δ'
    simp only [pickOps_cons, pickOps_nil, pick1_zero, pick1_succ]
    repeat (go_big_quiet_step ((go_at_call 18; (with_reducible first | exact Calls.pure_of_g3 (CR.out _ (G1.out.trans (by repeat (first | with_reducible exact Grew.refl _ | with_reducible apply Grew.alloc | with_reducible apply Grew.grow | with_reducible apply Grew.drew | with_reducible apply Grew.drewN)))) | exact Calls.pure_of_g4 (CR.out _ (G1.out.trans (by repeat (first | with_reducible exact Grew.refl _ | with_reducible apply Grew.alloc | with_reducible apply Grew.grow | with_reducible apply Grew.drew | with_reducible apply Grew.drewN)))) | exact Calls.pure_of_g (CR.out _ (G1.out.trans (by repeat (first | with_reducible exact Grew.refl _ | with_reducible apply Grew.alloc | with_reducible apply Grew.grow | with_reducible apply Grew.drew | with_reducible apply Grew.drewN)))) | exact Calls.pure_of_g5 (CR.out _ (G1.out.trans (by repeat (first | with_reducible exact Grew.refl _ | with_reducible apply Grew.alloc | with_reducible apply Grew.grow | with_reducible apply Grew.drew | with_reducible apply Grew.drewN))))))))
    exact wpQuiet_nil hA.out.symm
  apply wpFlow_quiets [4,5,6,7,8,9,10,11] (by decide +kernel) (by decide +kernel) (by kernel_rfl) (by intro _ _ _ d _ h; cases d <;> exact h) _
  · intro A hA δ'
    simp only [pickOps_cons, pickOps_nil, pick1_zero, pick1_succ]
    repeat (go_big_quiet_step ((fail)))
    exact wpQuiet_nil hA.out.symm
  apply wpFlow_quiets [12] (by decide +kernel) (by decide +kernel) (by kernel_rfl) (by intro _ _ _ d _ h; cases d <;> exact h) _
  · intro A hA δ'
    simp only [pickOps_cons, pickOps_nil, pick1_zero, pick1_succ]
    repeat (go_big_quiet_step ((go_at_call 19; (with_reducible first | exact Calls.pure_of_g3 (CC.out _ (by repeat (first | with_reducible exact Grew.refl _ | with_reducible apply Grew.alloc | with_reducible apply Grew.grow | with_reducible apply Grew.drew | with_reducible apply Grew.drewN))) | exact Calls.pure_of_g4 (CC.out _ (by repeat (first | with_reducible exact Grew.refl _ | with_reducible apply Grew.alloc | with_reducible apply Grew.grow | with_reducible apply Grew.drew | with_reducible apply Grew.drewN))) | exact Calls.pure_of_g (CC.out _ (by repeat (first | with_reducible exact Grew.refl _ | with_reducible apply Grew.alloc | with_reducible apply Grew.grow | with_reducible apply Grew.drew | with_reducible apply Grew.drewN))) | exact Calls.pure_of_g5 (CC.out _ (by repeat (first | with_reducible exact Grew.refl _ | with_reducible apply Grew.alloc | with_reducible apply Grew.grow | with_reducible apply Grew.drew | with_reducible apply Grew.drewN)))))))
    exact wpQuiet_nil hA.out.symm
  apply wpFlow_quiets [13,14,15,16,17,18,19,20] (by decide +kernel) (by decide +kernel) (by kernel_rfl) (by intro _ _ _ d _ h; cases d <;> exact h) _
  · intro A hA δ'
    simp only [pickOps_cons, pickOps_nil, pick1_zero, pick1_succ]
    repeat (go_big_quiet_step ((fail)))
    exact wpQuiet_nil hA.out.symm
  apply wpFlow_quiets [21] (by decide +kernel) (by decide +kernel) (by kernel_rfl) (by intro _ _ _ d _ h; cases d <;> exact h) _
  · intro A hA δ'
    simp only [pickOps_cons, pickOps_nil, pick1_zero, pick1_succ]
    repeat (go_big_quiet_step ((go_at_call 11; (with_reducible first | exact Calls.pure_of_g3 (CL1.out _ (G1.out.trans (by repeat (first | with_reducible exact Grew.refl _ | with_reducible apply Grew.alloc | with_reducible apply Grew.grow | with_reducible apply Grew.drew | with_reducible apply Grew.drewN)))) | exact Calls.pure_of_g4 (CL1.out _ (G1.out.trans (by repeat (first | with_reducible exact Grew.refl _ | with_reducible apply Grew.alloc | with_reducible apply Grew.grow | with_reducible apply Grew.drew | with_reducible apply Grew.drewN)))) | exact Calls.pure_of_g (CL1.out _ (G1.out.trans (by repeat (first | with_reducible exact Grew.refl _ | with_reducible apply Grew.alloc | with_reducible apply Grew.grow | with_reducible apply Grew.drew | with_reducible apply Grew.drewN)))) | exact Calls.pure_of_g5 (CL1.out _ (G1.out.trans (by repeat (first | with_reducible exact Grew.refl _ | with_reducible apply Grew.alloc | with_reducible apply Grew.grow | with_reducible apply Grew.drew | with_reducible apply Grew.drewN))))))))
    exact wpQuiet_nil hA.out.symm
  apply wpFlow_quiets [22,23,24,25,26] (by decide +kernel) (by decide +kernel) (by kernel_rfl) (by intro _ _ _ d _ h; cases d <;> exact h) _
  · intro A hA δ'
    simp only [pickOps_cons, pickOps_nil, pick1_zero, pick1_succ]
    repeat (go_big_quiet_step ((fail)))
    exact wpQuiet_nil hA.out.symm
  apply wpFlow_quiets [27] (by decide +kernel) (by decide +kernel) (by kernel_rfl) (by intro _ _ _ d _ h; cases d <;> exact h) _
  · intro A hA δ'
    simp only [pickOps_cons, pickOps_nil, pick1_zero, pick1_succ]
    repeat (go_big_quiet_step ((go_at_call 11; (with_reducible first | exact Calls.pure_of_g3 (CL2.out _ (G1.out.trans (by repeat (first | with_reducible exact Grew.refl _ | with_reducible apply Grew.alloc | with_reducible apply Grew.grow | with_reducible apply Grew.drew | with_reducible apply Grew.drewN)))) | exact Calls.pure_of_g4 (CL2.out _ (G1.out.trans (by repeat (first | with_reducible exact Grew.refl _ | with_reducible apply Grew.alloc | with_reducible apply Grew.grow | with_reducible apply Grew.drew | with_reducible apply Grew.drewN)))) | exact Calls.pure_of_g (CL2.out _ (G1.out.trans (by repeat (first | with_reducible exact Grew.refl _ | with_reducible apply Grew.alloc | with_reducible apply Grew.grow | with_reducible apply Grew.drew | with_reducible apply Grew.drewN)))) | exact Calls.pure_of_g5 (CL2.out _ (G1.out.trans (by repeat (first | with_reducible exact Grew.refl _ | with_reducible apply Grew.alloc | with_reducible apply Grew.grow | with_reducible apply Grew.drew | with_reducible apply Grew.drewN))))))))
    exact wpQuiet_nil hA.out.symm
  apply wpFlow_quiets [28,29] (by decide +kernel) (by decide +kernel) (by kernel_rfl) (by intro _ _ _ d _ h; cases d <;> exact h) _
  · intro A hA δ'
    simp only [pickOps_cons, pickOps_nil, pick1_zero, pick1_succ]
    repeat (go_big_quiet_step ((fail)))
    exact wpQuiet_nil hA.out.symm
  refine wpFlow_end (by decide +kernel) (by kernel_rfl) ?_
  intro δf
  go_wp2
  go_ret
  exact ⟨rfl, G1.out.trans (by repeat (first | with_reducible exact Grew.refl _ | with_reducible apply Grew.alloc | with_reducible apply Grew.grow | with_reducible apply Grew.drew | with_reducible apply Grew.drewN))⟩
end Go.Proofs.Ytinkdkcmmjfhoaa
/- The walk of LinkTwice. -/
namespace Go.Proofs.Ytinkdkcmmjfhoaa
set_option linter.unusedVariables false
set_option linter.unusedSimpArgs false
open Go.RowKit
set_option maxRecDepth 100000 in
set_option maxHeartbeats 6400000 in
theorem linkTwice_walk (q : Option Addr) (c : Nat) (l : List Idb) (hm : l.length ≤ maxLen) (a : Idb) (x : Int) (b' : Idb) (y n : Int) (w : World) (hs : ShowsI w (.slice q l.length c) l) :
    Calls Try.prog 4 #[.slice q l.length c, .agg (iv a.l), .int .i64 x, .agg (iv b'.l), .int .i64 y, .int .i64 n] w fun e w' => e = .returned (.bool true) ∧ Grew w w' := by
  have HS := Lib.hid hs
  clear hs hm
  have hal := a.len
  have hbl := b'.len
  obtain ⟨N, hN⟩ : ∃ N, l.length = N := ⟨_, rfl⟩
  have HN := Lib.hid hN
  rw [hN] at HS ⊢
  clear hN
  by_cases h4 : ¬ (¬ 32 < (N : Int) ∧ ¬ (N : Int) = 0 ∧ ¬ n < 1 ∧ ¬ 31 < n)
  · have h5 : 32 < (N : Int) ∨ (¬ 32 < (N : Int) ∧ (N : Int) = 0) ∨ (¬ 32 < (N : Int) ∧ ((N : Int) == 0) = false ∧ n < 1) ∨ (¬ 32 < (N : Int) ∧ ((N : Int) == 0) = false ∧ ¬ n < 1 ∧ 31 < n) := by simp; omega
    clear h4
    rcases h5 with h1 | ⟨h1, h2⟩ | ⟨h1, h2, h3⟩ | ⟨h1, h2, h3, h4⟩
    all_goals
      go_enter Try.func4, Try.ntmps4
      go_wp2_with (go_at_call 9; refine (awake_w _).mono ?_; rintro e w' ⟨rfl, δ, rfl⟩)
      go_ret
      exact ⟨rfl, (by repeat (first | with_reducible exact Grew.refl _ | with_reducible apply Grew.alloc | with_reducible apply Grew.grow | with_reducible apply Grew.drew | with_reducible apply Grew.drewN))⟩
  obtain ⟨h1, h2, h3, h3'⟩ : ¬ 32 < (N : Int) ∧ ¬ (N : Int) = 0 ∧ ¬ n < 1 ∧ ¬ 31 < n := by omega
  clear h4
  have hd0 : ((N : Int) == 0) = false := by simp; omega
  have hlen := HN.out
  have h0 : 0 < l.length := by omega
  obtain ⟨k, rfl⟩ : ∃ k : Nat, n = (k : Int) := ⟨n.toNat, by omega⟩
  have hnx := nextL_grow l a x (by omega) h0
  have CN := Lib.hid (fun W (g : Grew w W) => next_w l a x (.slice q N c) W (by omega) (HS.out.grew g))
  rw [hnx] at CN
  have hK1 : k ≤ lev x ↔ (k : Int) ≤ x := by unfold lev; omega
  have hK2 : k ≤ lev y ↔ (k : Int) ≤ y := by unfold lev; omega
  have hg1 := growL_len l a (lev x) h0
  have hl1 := lev_le x
  have hl2 := lev_le y
  have hgg1 := growL_get l a (lev x) k h0
  obtain ⟨m1, hm1⟩ : ∃ ms, growL l a (lev x) = ms := ⟨_, rfl⟩
  rw [hm1] at CN hg1 hgg1
  have h01 : 0 < m1.length := by omega
  have CN2 := Lib.hid (fun W v (g : ShowsI W v m1) => next_w m1 b' y v W (by omega) g)
  have hnx2 := nextL_grow m1 b' y (by omega) h01
  rw [hnx2] at CN2
  have hg2 := growL_len m1 b' (lev y) h01
  have hgg2 := growL_get m1 b' (lev y) k h01
  obtain ⟨ms, hms⟩ : ∃ ms, growL m1 b' (lev y) = ms := ⟨_, rfl⟩
  rw [hms] at CN2 hg2 hgg2
  obtain ⟨M, hM⟩ : ∃ M, ms.length = M := ⟨_, rfl⟩
  have k0 : ¬ k = 0 := by omega
  rw [if_neg k0] at hgg1 hgg2
  have hhs := HS.out
  rw [← HN.out] at hhs
  obtain ⟨b, o, rfl, _, hcc, hb, hat⟩ := showsI_some hhs h0
  have QL := Lib.hid (fun (j : Nat) (x : Idb) (hx : l[j]? = some x) W (g : Grew w W) δ => load_idg (World.rangeAt.grew (hat j x hx) g) δ)
  rw [hM, hg1, hlen] at hg2
  have HMs := Lib.hid hM
  have H1 := Lib.hid hgg1
  have H2 := Lib.hid hgg2
  have HK1 := Lib.hid hK1
  have HK2 := Lib.hid hK2
  have HG2 := Lib.hid hg2
  have hM0 : 0 < M := by omega
  clear hhs hat hnx hnx2 hm1 hms hcc hM hlen hgg1 hgg2 hK1 hK2 hg1 hg2 h0 h01 hl1 hl2
  go_enter Try.func4, Try.ntmps4
  go_wp2_with (go_at_call 9; refine (awake_w _).mono ?_; rintro e w' ⟨rfl, δ, rfl⟩)
  refine code_abs ?_
  intro X hX
  have gX : Grew w X := by rw [hX]; exact (by repeat (first | with_reducible exact Grew.refl _ | with_reducible apply Grew.alloc | with_reducible apply Grew.grow | with_reducible apply Grew.drew | with_reducible apply Grew.drewN))
  have r0 : X.rowAt w.heap.size = iv a.l := by rw [hX]; simp [go_sem]
  have z0 : w.heap.size < X.heap.size := by rw [hX]; simp; omega
  have r1 : X.rowAt (w.heap.size + 1) = iv b'.l := by rw [hX]; simp [go_sem]
  have z1 : w.heap.size + 1 < X.heap.size := by rw [hX]; simp; omega
  have GX := Lib.hid gX
  clear hX gX
  refine wp_region_flow (by kernel_rfl) ?_
  intro δf
  apply wpFlow_quiets [0,1,2,4,5] (by decide +kernel) (by decide +kernel) (by kernel_rfl) (by intro _ _ _ d _ h; cases d <;> exact h) _
  · intro A hA δ'
    simp only [pickOps_cons, pickOps_nil, pick1_zero, pick1_succ]
    repeat (go_big_quiet_step ((fail)))
    exact wpQuiet_nil hA.out.symm
  refine wpFlow_one 3 (by decide +kernel) (by kernel_rfl) (by kernel_rfl) ?_
  refine wpFlowS_intro ?_
  simp only [pickOps_cons, pickOps_nil, pick1_zero, pick1_succ]
  intro δf
  go_wp2_with (go_at_call 10; refine (CN.out _ (GX.out.trans (by repeat (first | with_reducible exact Grew.refl _ | with_reducible apply Grew.alloc | with_reducible apply Grew.grow | with_reducible apply Grew.drew | with_reducible apply Grew.drewN)))).mono ?_; rintro e w2 ⟨v39, rfl, hs39, hg2⟩)
  refine ⟨(by first | assumption | (simp only [grow_grow, Array.append_assoc]; assumption) | exact Grew.refl _ | (simp only [grow_grow, Array.append_assoc]; exact (by repeat (first | with_reducible exact Grew.refl _ | with_reducible apply Grew.alloc | with_reducible apply Grew.grow | with_reducible apply Grew.drew | with_reducible apply Grew.drewN))) | exact (by repeat (first | with_reducible exact Grew.refl _ | with_reducible apply Grew.alloc | with_reducible apply Grew.grow | with_reducible apply Grew.drew | with_reducible apply Grew.drewN))), ?_⟩
  have g2 : Grew X w2 := (show Grew X _ from (by repeat (first | with_reducible exact Grew.refl _ | with_reducible apply Grew.alloc | with_reducible apply Grew.grow | with_reducible apply Grew.drew | with_reducible apply Grew.drewN))).trans hg2
  have G2 := Lib.hid g2
  have S39 := Lib.hid hs39
  clear hg2 hs39 g2 CN
  refine wpFlow_one 6 (by decide +kernel) (by kernel_rfl) (by kernel_rfl) ?_
  refine wpFlowS_intro ?_
  simp only [pickOps_cons, pickOps_nil, pick1_zero, pick1_succ]
  intro δf
  go_wp2_with (go_at_call 10; refine (CN2.out _ _ (S39.out.grew (by repeat (first | with_reducible exact Grew.refl _ | with_reducible apply Grew.alloc | with_reducible apply Grew.grow | with_reducible apply Grew.drew | with_reducible apply Grew.drewN)))).mono ?_; rintro e W1 ⟨v1, rfl, hs1, hg3⟩)
  refine ⟨(by first | assumption | (simp only [grow_grow, Array.append_assoc]; assumption) | exact Grew.refl _ | (simp only [grow_grow, Array.append_assoc]; exact (by repeat (first | with_reducible exact Grew.refl _ | with_reducible apply Grew.alloc | with_reducible apply Grew.grow | with_reducible apply Grew.drew | with_reducible apply Grew.drewN))) | exact (by repeat (first | with_reducible exact Grew.refl _ | with_reducible apply Grew.alloc | with_reducible apply Grew.grow | with_reducible apply Grew.drew | with_reducible apply Grew.drewN))), ?_⟩
  have g3 : Grew w2 W1 := (show Grew w2 _ from (by repeat (first | with_reducible exact Grew.refl _ | with_reducible apply Grew.alloc | with_reducible apply Grew.grow | with_reducible apply Grew.drew | with_reducible apply Grew.drewN))).trans hg3
  obtain ⟨p1, c1, rfl⟩ := showsI_form hs1
  rw [HMs.out] at hs1 ⊢
  have hms2 := hs1
  rw [← HMs.out] at hms2
  obtain ⟨b1, o1, rfl, _, hcc1, hb1, hat1⟩ := showsI_some hms2 (by rw [HMs.out]; omega)
  have G1 := Lib.hid (GX.out.trans (G2.out.trans g3))
  have s0 : W1.rowAt w.heap.size = iv a.l := by rw [Grew.rowAt (G2.out.trans g3) _ z0]; exact r0
  have s1 : W1.rowAt (w.heap.size + 1) = iv b'.l := by rw [Grew.rowAt (G2.out.trans g3) _ z1]; exact r1
  have y0 : w.heap.size < W1.heap.size := Nat.lt_of_lt_of_le z0 (G2.out.trans g3).size
  have y1 : w.heap.size + 1 < W1.heap.size := Nat.lt_of_lt_of_le z1 (G2.out.trans g3).size
  have QM := Lib.hid (fun (j : Nat) (x : Idb) (hx : ms[j]? = some x) W (g : Grew W1 W) δ => load_idg (World.rangeAt.grew (hat1 j x hx) g) δ)
  have hMc : (M : Int) ≤ (c1 : Int) := by have := HMs.out; omega
  clear hg3 hs1 g3 CN2 r0 r1 z0 z1 G2 GX S39 hms2 hat1 hcc1
  apply wpFlow_quiets [7] (by decide +kernel) (by decide +kernel) (by kernel_rfl) (by intro _ _ _ d _ h; cases d <;> exact h) _
  · intro A hA δ'
    simp only [pickOps_cons, pickOps_nil, pick1_zero, pick1_succ]
    repeat (go_big_quiet_step ((fail)))
    exact wpQuiet_nil hA.out.symm
  refine wpFlow_end (by decide +kernel) (by kernel_rfl) ?_
  intro δf
  refine exit_abs ?_
  intro Y hY
  have gY : Grew W1 Y := by rw [hY]; exact (by repeat (first | with_reducible exact Grew.refl _ | with_reducible apply Grew.alloc | with_reducible apply Grew.grow | with_reducible apply Grew.drew | with_reducible apply Grew.drewN))
  have t0 : Y.rowAt w.heap.size = iv a.l := by rw [Grew.rowAt gY _ y0]; exact s0
  have t1 : Y.rowAt (w.heap.size + 1) = iv b'.l := by rw [Grew.rowAt gY _ y1]; exact s1
  have x0 : w.heap.size < Y.heap.size := Nat.lt_of_lt_of_le y0 gY.size
  have x1 : w.heap.size + 1 < Y.heap.size := Nat.lt_of_lt_of_le y1 gY.size
  have GY := Lib.hid (G1.out.trans gY)
  have GYY := Lib.hid gY
  clear hY gY s0 s1 y0 y1
  by_cases hy : (k : Int) ≤ y
  · have hkK := HK2.out.2 hy
    have hkM : decide (k < M) = true := decide_eq_true (by have := HG2.out; omega)
    have hkMI : (k : Int) < (M : Int) := by have := HG2.out; omega
    have h2' := H2.out
    rw [if_pos hkK] at h2'
    have q1 := QM.out k b' h2' Y GYY.out
    have e1 : ieq b'.l b'.l = true := decide_eq_true rfl
    clear hkK h2'
    go_wp2
    refine wp_region_flow (by kernel_rfl) ?_
    intro δf
    apply wpFlow_quiets [0,1,2,3,4,5,6,7,8,9,10,11,12] (by decide +kernel) (by decide +kernel) (by kernel_rfl) (by intro _ _ _ d _ h; cases d <;> exact h) _
    · intro A hA δ'
      simp only [pickOps_cons, pickOps_nil, pick1_zero, pick1_succ]
      repeat (go_big_quiet_step ((fail)))
      exact wpQuiet_nil hA.out.symm
    refine wpFlow_end (by decide +kernel) (by kernel_rfl) ?_
    intro δf
    go_wp2
    go_ret
    exact ⟨rfl, GY.out.trans (by repeat (first | with_reducible exact Grew.refl _ | with_reducible apply Grew.alloc | with_reducible apply Grew.grow | with_reducible apply Grew.drew | with_reducible apply Grew.drewN))⟩
  · have hkK : ¬ k ≤ lev y := fun h => hy (HK2.out.1 h)
    have h2' := H2.out
    rw [if_neg hkK, H1.out] at h2'
    by_cases hx : (k : Int) ≤ x
    · have hkx := HK1.out.2 hx
      rw [if_pos hkx] at h2'
      have hkM : decide (k < M) = true := decide_eq_true (by have := HG2.out; omega)
      have hkMI : (k : Int) < (M : Int) := by have := HG2.out; omega
      have q1 := QM.out k a h2' Y GYY.out
      have e1 : ieq a.l a.l = true := decide_eq_true rfl
      clear hkK h2' hkx
      go_wp2
      refine wp_region_flow (by kernel_rfl) ?_
      intro δf
      apply wpFlow_quiets [0,1,2,3,4,5,6,7,8,9,10,11,12] (by decide +kernel) (by decide +kernel) (by kernel_rfl) (by intro _ _ _ d _ h; cases d <;> exact h) _
      · intro A hA δ'
        simp only [pickOps_cons, pickOps_nil, pick1_zero, pick1_succ]
        repeat (go_big_quiet_step ((fail)))
        exact wpQuiet_nil hA.out.symm
      refine wpFlow_end (by decide +kernel) (by kernel_rfl) ?_
      intro δf
      go_wp2
      go_ret
      exact ⟨rfl, GY.out.trans (by repeat (first | with_reducible exact Grew.refl _ | with_reducible apply Grew.alloc | with_reducible apply Grew.grow | with_reducible apply Grew.drew | with_reducible apply Grew.drewN))⟩
    · have hkx : ¬ k ≤ lev x := fun h => hx (HK1.out.1 h)
      rw [if_neg hkx] at h2'
      by_cases hD : k < N
      · have hkN : decide (N ≤ k) = false := decide_eq_false (by omega)
        have hkM : decide (k < M) = true := decide_eq_true (by have := HG2.out; omega)
        have hkMI : (k : Int) < (M : Int) := by have := HG2.out; omega
        have hkNI : (k : Int) < (N : Int) := by omega
        obtain ⟨u, hu⟩ : ∃ y, l[k]? = some y := ⟨_, List.getElem?_eq_getElem (by rw [HN.out]; exact hD)⟩
        have q1 := QM.out k u (h2'.trans hu) Y GYY.out
        have q2 := QL.out k u hu Y GY.out
        have e1 : ieq u.l u.l = true := decide_eq_true rfl
        have hul := u.len
        clear hkK h2' hkx hu
        go_wp2
        refine wp_region_flow (by kernel_rfl) ?_
        intro δf
        apply wpFlow_quiets [0,1,2,3,4,5,6,7,8,9,10,11,12,13,14,15,16,17,18,19,20,21] (by decide +kernel) (by decide +kernel) (by kernel_rfl) (by intro _ _ _ d _ h; cases d <;> exact h) _
        · intro A hA δ'
          simp only [pickOps_cons, pickOps_nil, pick1_zero, pick1_succ]
          repeat (go_big_quiet_step ((fail)))
          exact wpQuiet_nil hA.out.symm
        refine wpFlow_end (by decide +kernel) (by kernel_rfl) ?_
        intro δf
        go_wp2
        go_ret
        exact ⟨rfl, GY.out.trans (by repeat (first | with_reducible exact Grew.refl _ | with_reducible apply Grew.alloc | with_reducible apply Grew.grow | with_reducible apply Grew.drew | with_reducible apply Grew.drewN))⟩
      · have hkN : decide (N ≤ k) = true := decide_eq_true (by omega)
        clear hkK h2' hkx
        go_wp2
        refine wp_region_flow (by kernel_rfl) ?_
        intro δf
        apply wpFlow_quiets [0,1,2,3,4,5,6,7,8,9,10,11,12,13,14,15,16,17,18,19,20,21] (by decide +kernel) (by decide +kernel) (by kernel_rfl) (by intro _ _ _ d _ h; cases d <;> exact h) _
        · intro A hA δ'
          simp only [pickOps_cons, pickOps_nil, pick1_zero, pick1_succ]
          repeat (go_big_quiet_step ((fail)))
          exact wpQuiet_nil hA.out.symm
        refine wpFlow_end (by decide +kernel) (by kernel_rfl) ?_
        intro δf
        go_wp2
        go_ret
        exact ⟨rfl, GY.out.trans (by repeat (first | with_reducible exact Grew.refl _ | with_reducible apply Grew.alloc | with_reducible apply Grew.grow | with_reducible apply Grew.drew | with_reducible apply Grew.drewN))⟩
end Go.Proofs.Ytinkdkcmmjfhoaa
namespace Go.Proofs.Ytinkdkcmmjfhoaa.linkTwice
set_option linter.unusedVariables false
set_option linter.unusedSimpArgs false
open Go.ChangeShapes Go.WideShapes Go.ChangeAt Go.RowKit

set_option maxRecDepth 100000 in
theorem lifted (os : Os) (started : os.Started) (H : Type) (enc : TypeId × Value → H) :
    ReturnsInHanded {} Try.checked os 4 .any (Rows.linkTwiceSpec.pre6 enc Try.prog Try.f4 Rows.linkTwiceRow.domain false) (Rows.linkTwiceSpec.post enc Try.prog Try.f4 false true false false) := by
  refine returnsInHanded_of_change (C := Try.checked) own started (by kernel_rfl) Try.func4
    (ChangeSpec.witness6 (enc := enc) (C := Try.checked) false ⟨#[], #[.slice none 0 0, .agg (Array.replicate 32 (.int .u8 0)), .int .i64 0, .agg (Array.replicate 32 (.int .u8 0)), .int .i64 0, .int .i64 0], []⟩ 8 (by kernel_rfl) (by kernel_rfl) (by kernel_rfl) (by kernel_rfl)) ?_
  intro W base args ds gs before hval0 hW _ _
  have hval : ∀ (j : Nat) t v, Try.f4.params[j]? = some t → args[j]? = some v → Value.okWide Try.prog W .any base t v := hval0
  have hW' := hW
  obtain ⟨p, q, hA0, hV, rfl, hfz, hnd⟩ := hW
  have hA : DataW.TrodAll enc Try.prog W 0 (fun _ => true) true Try.f4.params.toList args.toList ds p := hA0
  have hAk := hA
  rw [Try.params4] at hA hval
  obtain ⟨v0, vs0, d0, ds0, p0, q0, hargs0, rfl, rfl, h0, r0⟩ := trodAll_cons hA
  obtain ⟨v1, vs1, d1, ds1, p1, q1, hargs1, rfl, rfl, h1, r1⟩ := trodAll_cons r0
  obtain ⟨v2, vs2, d2, ds2, p2, q2, hargs2, rfl, rfl, h2, r2⟩ := trodAll_cons r1
  obtain ⟨v3, vs3, d3, ds3, p3, q3, hargs3, rfl, rfl, h3, r3⟩ := trodAll_cons r2
  obtain ⟨v4, vs4, d4, ds4, p4, q4, hargs4, rfl, rfl, h4, r4⟩ := trodAll_cons r3
  obtain ⟨v5, vs5, d5, ds5, p5, q5, hargs5, rfl, rfl, h5, r5⟩ := trodAll_cons r4
  obtain ⟨rfl, rfl, rfl⟩ := trodAll_nil r5
  subst hargs5
  subst hargs4
  subst hargs3
  subst hargs2
  subst hargs1
  obtain rfl : args = #[v0, v1, v2, v3, v4, v5] := by cases args; simp_all
  obtain ⟨rfl, rfl⟩ := trodVars_none hV
  obtain ⟨q0', n0', c0', rfl⟩ := okWide_slice Try.underlying22 (hval 0 22 v0 rfl rfl)
  obtain ⟨aq0, ac0, al0, ae0, am0, as0⟩ := open_ids h0 rfl
  rw [ae0]
  obtain ⟨a1, rfl, _, _⟩ := open_id (hval 1 24 v1 rfl rfl) h1
  obtain ⟨a2, rfl, rfl, _, w2⟩ := open_int Try.underlying3 (hval 2 3 v2 rfl rfl) h2
  obtain ⟨a3, rfl, _, _⟩ := open_id (hval 3 24 v3 rfl rfl) h3
  obtain ⟨a4, rfl, rfl, _, w4⟩ := open_int Try.underlying3 (hval 4 3 v4 rfl rfl) h4
  obtain ⟨a5, rfl, rfl, _, w5⟩ := open_int Try.underlying3 (hval 5 3 v5 rfl rfl) h5
  simp only [List.append_nil] at hW'
  refine (linkTwice_walk aq0 ac0 al0 am0 a1 a2 a3 a4 a5 W as0).mono fun e W' ⟨he, hg⟩ => ?_
  subst he
  rw [← ae0]
  exact ⟨_, rfl, post_of_stays hW' rfl (by simpa using hAk) (types_ok _ (by rw [Try.params4]; kernel_rfl)) rfl rfl (fun _ _ _ => (trodAll_cons_mk (shut_bool Try.underlying4 _) trodAll_mk0))
    hg (ok_one (by kernel_rfl) rfl (okWide_bool_mk Try.underlying4 _))⟩

theorem proved : Rows.LinkTwiceSaid :=
  OpenClaim.holds_of_wide 4 Try.f4 rfl rfl rfl rfl rfl rfl rfl ⟨rfl, rfl, rfl, rfl, rfl⟩ rfl rfl rfl rfl rfl (by kernel_rfl) Try.func4 (by kernel_rfl)
    (of_decide_eq_true (by kernel_rfl)) (by unfold Func.isWrapper; first | (rw [if_pos (by decide +kernel)]; kernel_rfl) | (rw [if_neg (by decide +kernel)]; exact ⟨rfl, rfl⟩))
    (fun os started H enc _ => lifted os started H enc)
end Go.Proofs.Ytinkdkcmmjfhoaa.linkTwice
