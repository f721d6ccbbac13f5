/- 'stepladderlaw07.LinkTells' answers true for every slice of ids, id, id, int, int, slice of ids, without panicking, and what it was handed reads as before. Conditions: none. -/
import Derived.Test.YtinkdkcmmjfhoaaRows
import Derived.Test.YtinkdkcmmjfhoaaM6
/- The walk of LinkPaths. -/
namespace Go.Proofs.Ytinkdkcmmjfhoaa
set_option linter.unusedVariables false
set_option linter.unusedSimpArgs false
open Go.RowKit
theorem exit_abs {Q : Exit → Act → World → Prop} {e : Exit} {a : Act} {X : World} (h : ∀ Y, Y = X → Q e a Y) : Q e a X := h X rfl
theorem leads_in {ls : List Idb} {id x : Idb} {k : Nat} (prev : Idb) (hx : ls[k]? = some x) (h : x = id) : leads ls prev id = true := by
  subst h
  unfold leads
  rw [anyB_at hx (decide_eq_true rfl), Bool.or_true]
theorem leads_self (ls : List Idb) (p : Idb) : leads ls p p = true := by
  unfold leads
  rw [show ieq p.l p.l = true from decide_eq_true rfl, Bool.true_or]
set_option maxRecDepth 100000 in
set_option maxHeartbeats 6400000 in
theorem linkPaths_walk (q : Option Addr) (c : Nat) (l : List Idb) (hm : l.length ≤ maxLen) (i : Int) (r : Idb) (w : World) (hs : ShowsI w (.slice q l.length c) l) :
    Calls Try.prog 7 #[.slice q l.length c, .int .i64 i, .agg (iv r.l)] w fun e w' => e = .returned (.bool true) ∧ Grew w w' := by
  have HS := Lib.hid hs
  clear hs hm
  have hrl := r.len
  obtain ⟨N, hN⟩ : ∃ N, l.length = N := ⟨_, rfl⟩
  have HN := Lib.hid hN
  rw [hN] at HS ⊢
  clear hN
  by_cases h4 : ¬ (¬ 64 < (N : Int) ∧ ¬ i < 0 ∧ ¬ (N : Int) ≤ i)
  · have h5 : 64 < (N : Int) ∨ (¬ 64 < (N : Int) ∧ i < 0) ∨ (¬ 64 < (N : Int) ∧ ¬ i < 0 ∧ (N : Int) ≤ i) := by omega
    clear h4
    rcases h5 with h1 | ⟨h1, h2⟩ | ⟨h1, h2, h3⟩
    all_goals
      go_enter Try.func7, Try.ntmps7
      go_wp2_with (go_at_call 9; refine (awake_w _).mono ?_; rintro e w' ⟨rfl, δ, rfl⟩)
      go_ret
      exact ⟨rfl, (by repeat (first | with_reducible exact Grew.refl _ | with_reducible apply Grew.alloc | with_reducible apply Grew.grow | with_reducible apply Grew.drew | with_reducible apply Grew.drewN))⟩
  obtain ⟨h1, h2, h3⟩ : ¬ 64 < (N : Int) ∧ ¬ i < 0 ∧ ¬ (N : Int) ≤ i := by omega
  clear h4
  obtain ⟨j, rfl⟩ : ∃ j : Nat, i = (j : Int) := ⟨i.toNat, by omega⟩
  have hlen := HN.out
  obtain ⟨x, hx⟩ : ∃ x, l[j]? = some x := ⟨_, List.getElem?_eq_getElem (by omega)⟩
  have hxl := x.len
  have hok : pathOk l j = true := decide_eq_true (by omega)
  have hok2 : pathOk (leavesL l) j = true := by rw [pathOk_leaves]; exact hok
  have hof : pathOf (leavesL l) j = path (leavesL l) j := by unfold pathOf; rw [if_pos hok2]; rfl
  have CP := Lib.hid (fun W (g : Grew w W) => lpath_w l j (.slice q N c) W (by omega) (HS.out.grew g))
  rw [hok, hof] at CP
  have hpl := path_len (leavesL l) j (by rw [leavesL_len]; omega)
  have hsl := side_len (leavesL l).length j (by rw [leavesL_len]; omega) (by rw [leavesL_len]; omega)
  have hck := chk_path (leavesL l) j _ (by rw [leavesL_len]; omega) (leavesL_get l j x hx)
  rw [leavesL_len, hlen] at hck hsl
  have CR := Lib.hid (fun W (g : Grew w W) => lroot_w l (.slice q N c) W (by omega) (HS.out.grew g))
  have CL1 := Lib.hid (fun W (g : Grew w W) => leads_w l r x (.slice q N c) W (by omega) (HS.out.grew g))
  have CL2 := Lib.hid (fun W (g : Grew w W) => leads_w l r r (.slice q N c) W (by omega) (HS.out.grew g))
  rw [leads_in r hx rfl] at CL1
  rw [leads_self] at CL2
  have hrl2 := (root (leavesL l)).len
  obtain ⟨R, hR⟩ : ∃ R, root (leavesL l) = R := ⟨_, rfl⟩
  rw [hR] at CR hck hrl2
  obtain ⟨ps, hps⟩ : ∃ ps, path (leavesL l) j = ps := ⟨_, rfl⟩
  rw [hps] at CP hck hpl
  have hp64 : ps.length ≤ 100000 := by rw [hpl, leavesL_len, hlen]; omega
  have hhs := HS.out
  rw [← HN.out] at hhs
  obtain ⟨b, o, rfl, _, hcc, hb, hat⟩ := showsI_some hhs (by omega)
  have QL := Lib.hid (fun W (g : Grew w W) δ => load_idg (World.rangeAt.grew (hat j x hx) g) δ)
  have C1 := Lib.hid hck
  clear hhs hck hat hR hps hx hok hok2 hof hcc hpl hsl hlen
  go_enter Try.func7, Try.ntmps7
  go_wp2_with (first | (go_at_call 9; refine (awake_w _).mono ?_; rintro e w' ⟨rfl, δ, rfl⟩) | (go_at_call 14; refine stop_of ?_))
  unfold Stop
  refine Calls_abs ?_
  intro X hX
  have gX : Grew w X := by rw [hX]; exact (by repeat (first | with_reducible exact Grew.refl _ | with_reducible apply Grew.alloc | with_reducible apply Grew.grow | with_reducible apply Grew.drew | with_reducible apply Grew.drewN))
  have rX : X.rowAt w.heap.size = iv r.l := by rw [hX]; simp [go_sem]
  have zX : w.heap.size < X.heap.size := by rw [hX]; simp; omega
  clear hX
  refine (CP.out X gX).mono ?_
  rintro e W1 ⟨v1, rfl, ho, hg⟩
  have PS := Lib.hid (ho.shows Idb.cs_len)
  have G1 := Lib.hid (gX.trans hg)
  have r1 : W1.rowAt w.heap.size = iv r.l := by rw [Grew.rowAt hg _ zX]; exact rX
  have z1 : w.heap.size < W1.heap.size := Nat.lt_of_lt_of_le zX hg.size
  have CC := Lib.hid (fun W (g : Grew W1 W) => lcheck_w R N j x ps v1 W (PS.out.grew g) hp64)
  rw [C1.out] at CC
  have q1 := QL.out W1 G1.out
  clear ho hg gX rX zX CP QL C1 PS
  go_wp2
  refine wp_region_flow (by kernel_rfl) ?_
  intro δf
  apply wpFlow_quiets [0,1,2] (by decide +kernel) (by decide +kernel) (by kernel_rfl) (by intro _ _ _ d _ h; cases d <;> exact h) _
  · intro A hA δ'
    simp only [pickOps_cons, pickOps_nil, pick1_zero, pick1_succ]
    repeat (go_big_quiet_step ((fail)))
    exact wpQuiet_nil hA.out.symm
  apply wpFlow_quiets [3] (by decide +kernel) (by decide +kernel) (by kernel_rfl) (by intro _ _ _ d _ h; cases d <;> exact h) _
  · intro A hA δ'
    simp only [pickOps_cons, pickOps_nil, pick1_zero, pick1_succ]
    repeat (go_big_quiet_step ((go_at_call 18; (with_reducible first | exact Calls.pure_of_g3 (CR.out _ (G1.out.trans (by repeat (first | with_reducible exact Grew.refl _ | with_reducible apply Grew.alloc | with_reducible apply Grew.grow | with_reducible apply Grew.drew | with_reducible apply Grew.drewN)))) | exact Calls.pure_of_g4 (CR.out _ (G1.out.trans (by repeat (first | with_reducible exact Grew.refl _ | with_reducible apply Grew.alloc | with_reducible apply Grew.grow | with_reducible apply Grew.drew | with_reducible apply Grew.drewN)))) | exact Calls.pure_of_g (CR.out _ (G1.out.trans (by repeat (first | with_reducible exact Grew.refl _ | with_reducible apply Grew.alloc | with_reducible apply Grew.grow | with_reducible apply Grew.drew | with_reducible apply Grew.drewN)))) | exact Calls.pure_of_g5 (CR.out _ (G1.out.trans (by repeat (first | with_reducible exact Grew.refl _ | with_reducible apply Grew.alloc | with_reducible apply Grew.grow | with_reducible apply Grew.drew | with_reducible apply Grew.drewN))))))))
    exact wpQuiet_nil hA.out.symm
  apply wpFlow_quiets [4,5,6,7,8,9,10,11] (by decide +kernel) (by decide +kernel) (by kernel_rfl) (by intro _ _ _ d _ h; cases d <;> exact h) _
  · intro A hA δ'
    simp only [pickOps_cons, pickOps_nil, pick1_zero, pick1_succ]
    repeat (go_big_quiet_step ((fail)))
    exact wpQuiet_nil hA.out.symm
  apply wpFlow_quiets [12] (by decide +kernel) (by decide +kernel) (by kernel_rfl) (by intro _ _ _ d _ h; cases d <;> exact h) _
  · intro A hA δ'
    simp only [pickOps_cons, pickOps_nil, pick1_zero, pick1_succ]
    repeat (go_big_quiet_step ((go_at_call 19; (with_reducible first | exact Calls.pure_of_g3 (CC.out _ (by repeat (first | with_reducible exact Grew.refl _ | with_reducible apply Grew.alloc | with_reducible apply Grew.grow | with_reducible apply Grew.drew | with_reducible apply Grew.drewN))) | exact Calls.pure_of_g4 (CC.out _ (by repeat (first | with_reducible exact Grew.refl _ | with_reducible apply Grew.alloc | with_reducible apply Grew.grow | with_reducible apply Grew.drew | with_reducible apply Grew.drewN))) | exact Calls.pure_of_g (CC.out _ (by repeat (first | with_reducible exact Grew.refl _ | with_reducible apply Grew.alloc | with_reducible apply Grew.grow | with_reducible apply Grew.drew | with_reducible apply Grew.drewN))) | exact Calls.pure_of_g5 (CC.out _ (by repeat (first | with_reducible exact Grew.refl _ | with_reducible apply Grew.alloc | with_reducible apply Grew.grow | with_reducible apply Grew.drew | with_reducible apply Grew.drewN)))))))
    exact wpQuiet_nil hA.out.symm
  apply wpFlow_quiets [13,14,15,16,17,18,19,20] (by decide +kernel) (by decide +kernel) (by kernel_rfl) (by intro _ _ _ d _ h; cases d <;> exact h) _
  · intro A hA δ'
    simp only [pickOps_cons, pickOps_nil, pick1_zero, pick1_succ]
    repeat (go_big_quiet_step ((fail)))
    exact wpQuiet_nil hA.out.symm
  apply wpFlow_quiets [21] (by decide +kernel) (by decide +kernel) (by kernel_rfl) (by intro _ _ _ d _ h; cases d <;> exact h) _
  · intro A hA δ'
    simp only [pickOps_cons, pickOps_nil, pick1_zero, pick1_succ]
    repeat (go_big_quiet_step ((go_at_call 11; (with_reducible first | exact Calls.pure_of_g3 (CL1.out _ (G1.out.trans (by repeat (first | with_reducible exact Grew.refl _ | with_reducible apply Grew.alloc | with_reducible apply Grew.grow | with_reducible apply Grew.drew | with_reducible apply Grew.drewN)))) | exact Calls.pure_of_g4 (CL1.out _ (G1.out.trans (by repeat (first | with_reducible exact Grew.refl _ | with_reducible apply Grew.alloc | with_reducible apply Grew.grow | with_reducible apply Grew.drew | with_reducible apply Grew.drewN)))) | exact Calls.pure_of_g (CL1.out _ (G1.out.trans (by repeat (first | with_reducible exact Grew.refl _ | with_reducible apply Grew.alloc | with_reducible apply Grew.grow | with_reducible apply Grew.drew | with_reducible apply Grew.drewN)))) | exact Calls.pure_of_g5 (CL1.out _ (G1.out.trans (by repeat (first | with_reducible exact Grew.refl _ | with_reducible apply Grew.alloc | with_reducible apply Grew.grow | with_reducible apply Grew.drew | with_reducible apply Grew.drewN))))))))
    exact wpQuiet_nil hA.out.symm
  apply wpFlow_quiets [22,23,24,25,26] (by decide +kernel) (by decide +kernel) (by kernel_rfl) (by intro _ _ _ d _ h; cases d <;> exact h) _
  · intro A hA δ'
    simp only [pickOps_cons, pickOps_nil, pick1_zero, pick1_succ]
    repeat (go_big_quiet_step ((fail)))
    exact wpQuiet_nil hA.out.symm
  apply wpFlow_quiets [27] (by decide +kernel) (by decide +kernel) (by kernel_rfl) (by intro _ _ _ d _ h; cases d <;> exact h) _
  · intro A hA δ'
    simp only [pickOps_cons, pickOps_nil, pick1_zero, pick1_succ]
    repeat (go_big_quiet_step ((go_at_call 11; (with_reducible first | exact Calls.pure_of_g3 (CL2.out _ (G1.out.trans (by repeat (first | with_reducible exact Grew.refl _ | with_reducible apply Grew.alloc | with_reducible apply Grew.grow | with_reducible apply Grew.drew | with_reducible apply Grew.drewN)))) | exact Calls.pure_of_g4 (CL2.out _ (G1.out.trans (by repeat (first | with_reducible exact Grew.refl _ | with_reducible apply Grew.alloc | with_reducible apply Grew.grow | with_reducible apply Grew.drew | with_reducible apply Grew.drewN)))) | exact Calls.pure_of_g (CL2.out _ (G1.out.trans (by repeat (first | with_reducible exact Grew.refl _ | with_reducible apply Grew.alloc | with_reducible apply Grew.grow | with_reducible apply Grew.drew | with_reducible apply Grew.drewN)))) | exact Calls.pure_of_g5 (CL2.out _ (G1.out.trans (by repeat (first | with_reducible exact Grew.refl _ | with_reducible apply Grew.alloc | with_reducible apply Grew.grow | with_reducible apply Grew.drew | with_reducible apply Grew.drewN))))))))
    exact wpQuiet_nil hA.out.symm
  apply wpFlow_quiets [28,29] (by decide +kernel) (by decide +kernel) (by kernel_rfl) (by intro _ _ _ d _ h; cases d <;> exact h) _
  · intro A hA δ'
    simp only [pickOps_cons, pickOps_nil, pick1_zero, pick1_succ]
    repeat (go_big_quiet_step ((fail)))
    exact wpQuiet_nil hA.out.symm
  refine wpFlow_end (by decide +kernel) (by kernel_rfl) ?_
  intro δf
  go_wp2
  go_ret
  exact ⟨rfl, G1.out.trans (by repeat (first | with_reducible exact Grew.refl _ | with_reducible apply Grew.alloc | with_reducible apply Grew.grow | with_reducible apply Grew.drew | with_reducible apply Grew.drewN))⟩
end Go.Proofs.Ytinkdkcmmjfhoaa
/- The walk of LinkTells. -/
namespace Go.Proofs.Ytinkdkcmmjfhoaa
set_option linter.unusedVariables false
set_option linter.unusedSimpArgs false
open Go.RowKit
set_option maxRecDepth 100000 in
set_option maxHeartbeats 6400000 in
theorem linkTells_walk (q : Option Addr) (c : Nat) (l : List Idb) (hm : l.length ≤ maxLen) (id prev : Idb) (level i : Int) (q1 : Option Addr) (c1 : Nat) (l1 : List Idb) (hm1 : l1.length ≤ maxLen) (w : World) (hs : ShowsI w (.slice q l.length c) l) (hs1 : ShowsI w (.slice q1 l1.length c1) l1) :
    Calls Try.prog 6 #[.slice q l.length c, .agg (iv id.l), .agg (iv prev.l), .int .i64 level, .int .i64 i, .slice q1 l1.length c1] w fun e w' => e = .returned (.bool true) ∧ Grew w w' := by
  have HS := Lib.hid hs
  have HS1 := Lib.hid hs1
  clear hs hm hs1 hm1
  have hil := id.len
  have hpl := prev.len
  obtain ⟨N, hN⟩ : ∃ N, l.length = N := ⟨_, rfl⟩
  have HN := Lib.hid hN
  obtain ⟨M, hM⟩ : ∃ N, l1.length = N := ⟨_, rfl⟩
  have HM := Lib.hid hM
  rw [hN] at HS ⊢
  rw [hM] at HS1 ⊢
  by_cases h4 : ¬ (¬ 70 < (N : Int) ∧ ¬ 12 < (M : Int))
  · have h5 : 70 < (N : Int) ∨ (¬ 70 < (N : Int) ∧ 12 < (M : Int)) := by omega
    clear h4 hN hM
    rcases h5 with h1 | ⟨h1, h2⟩
    all_goals
      go_enter Try.func6, Try.ntmps6
      go_wp2_with (go_at_call 9; refine (awake_w _).mono ?_; rintro e w' ⟨rfl, δ, rfl⟩)
      go_ret
      exact ⟨rfl, (by repeat (first | with_reducible exact Grew.refl _ | with_reducible apply Grew.alloc | with_reducible apply Grew.grow | with_reducible apply Grew.drew | with_reducible apply Grew.drewN))⟩
  obtain ⟨h1, h2⟩ : ¬ 70 < (N : Int) ∧ ¬ 12 < (M : Int) := by omega
  clear h4
  have CN := Lib.hid (fun W (g : Grew w W) => next_w l id level (.slice q N c) W (by omega) (HS.out.grew g))
  have CM := Lib.hid (fun W (g : Grew w W) => rnext_w l id level (.slice q N c) W (by omega) (HS.out.grew g))
  have hnl := nextL_len l id level (by omega)
  obtain ⟨nx, hnx⟩ : ∃ nx, nextL l id level = nx := ⟨_, rfl⟩
  rw [hnx] at CN CM hnl
  have CP := Lib.hid (fun W (g : Grew w W) => lpath_w l i (.slice q N c) W (by omega) (HS.out.grew g))
  have CQ := Lib.hid (fun W (g : Grew w W) => rlpath_w l i (.slice q N c) W (by omega) (HS.out.grew g))
  have hpo : (pathOf (leavesL l) i).length ≤ 1000 := by
    unfold pathOf
    split
    · rename_i h
      have h := of_decide_eq_true h
      have h7 := leavesL_len l
      have := side_len (leavesL l).length i.toNat (by omega) (by omega)
      rw [path_len (leavesL l) _ (by omega)]
      omega
    · simp
  obtain ⟨ok, hok⟩ : ∃ ok, pathOk l i = ok := ⟨_, rfl⟩
  obtain ⟨ps, hps⟩ : ∃ ps, pathOf (leavesL l) i = ps := ⟨_, rfl⟩
  rw [hps] at hpo
  rw [hok, hps] at CP CQ
  have CR := Lib.hid (fun W (g : Grew w W) => lroot_w l (.slice q N c) W (by omega) (HS.out.grew g))
  have CS := Lib.hid (fun W (g : Grew w W) => rlroot_w l (.slice q N c) W (by omega) (HS.out.grew g))
  have CL := Lib.hid (fun W (g : Grew w W) => leads_w l prev id (.slice q N c) W (by omega) (HS.out.grew g))
  have CK := Lib.hid (fun W (g : Grew w W) => rleads_w l prev id (.slice q N c) W (by omega) (HS.out.grew g))
  obtain ⟨D, hD⟩ : ∃ D, leads l prev id = D := ⟨_, rfl⟩
  rw [hD] at CL CK
  have hrl := (root (leavesL l)).len
  obtain ⟨R, hR⟩ : ∃ R, root (leavesL l) = R := ⟨_, rfl⟩
  rw [hR] at CR CS hrl
  have C1 := Lib.hid (fun W (g : Grew w W) => lcheck_w R N i id l1 (.slice q1 M c1) W (HS1.out.grew g) (by omega))
  have C2 := Lib.hid (fun W (g : Grew w W) => rlcheck_w R N i id l1 (.slice q1 M c1) W (HS1.out.grew g) (by omega))
  obtain ⟨B, hB⟩ : ∃ B, chk R N i (Idb.leaf id.l) l1 = B := ⟨_, rfl⟩
  rw [hB] at C1 C2
  have e1 : ieq R.l R.l = true := decide_eq_true rfl
  have e2 : (ok == ok) = true := by cases ok <;> rfl
  have e3 : (D == D) = true := by cases D <;> rfl
  have e4 : (B == B) = true := by cases B <;> rfl
  clear hN hM hnx hok hps hD hR hB HS HS1
  go_enter Try.func6, Try.ntmps6
  go_wp2_with (go_at_call 9; refine (awake_w _).mono ?_; rintro e w' ⟨rfl, δ, rfl⟩)
  refine code_abs ?_
  intro X hX
  have gX : Grew w X := by rw [hX]; exact (by repeat (first | with_reducible exact Grew.refl _ | with_reducible apply Grew.alloc | with_reducible apply Grew.grow | with_reducible apply Grew.drew | with_reducible apply Grew.drewN))
  have r0 : X.rowAt w.heap.size = iv id.l := by rw [hX]; simp [go_sem]
  have z0 : w.heap.size < X.heap.size := by rw [hX]; simp; omega
  have r1 : X.rowAt (w.heap.size + 1) = iv prev.l := by rw [hX]; simp [go_sem]
  have z1 : w.heap.size + 1 < X.heap.size := by rw [hX]; simp; omega
  have GX := Lib.hid gX
  clear hX gX
  refine wp_region_flow (by kernel_rfl) ?_
  intro δf
  apply wpFlow_quiets [0,1,2,4,5,6] (by decide +kernel) (by decide +kernel) (by kernel_rfl) (by intro _ _ _ d _ h; cases d <;> exact h) _
  · intro A hA δ'
    simp only [pickOps_cons, pickOps_nil, pick1_zero, pick1_succ]
    repeat (go_big_quiet_step ((fail)))
    exact wpQuiet_nil hA.out.symm
  refine wpFlow_one 3 (by decide +kernel) (by kernel_rfl) (by kernel_rfl) ?_
  refine wpFlowS_intro ?_
  simp only [pickOps_cons, pickOps_nil, pick1_zero, pick1_succ]
  intro δf
  go_wp2_with (go_at_call 10; refine (CN.out _ (GX.out.trans (by repeat (first | with_reducible exact Grew.refl _ | with_reducible apply Grew.alloc | with_reducible apply Grew.grow | with_reducible apply Grew.drew | with_reducible apply Grew.drewN)))).mono ?_; rintro e w2 ⟨v39, rfl, hs39, hg2⟩)
  refine ⟨(by first | assumption | (simp only [grow_grow, Array.append_assoc]; assumption) | exact Grew.refl _ | (simp only [grow_grow, Array.append_assoc]; exact (by repeat (first | with_reducible exact Grew.refl _ | with_reducible apply Grew.alloc | with_reducible apply Grew.grow | with_reducible apply Grew.drew | with_reducible apply Grew.drewN))) | exact (by repeat (first | with_reducible exact Grew.refl _ | with_reducible apply Grew.alloc | with_reducible apply Grew.grow | with_reducible apply Grew.drew | with_reducible apply Grew.drewN))), ?_⟩
  have g2 : Grew X w2 := (show Grew X _ from (by repeat (first | with_reducible exact Grew.refl _ | with_reducible apply Grew.alloc | with_reducible apply Grew.grow | with_reducible apply Grew.drew | with_reducible apply Grew.drewN))).trans hg2
  have G2 := Lib.hid g2
  have S39 := Lib.hid hs39
  clear hg2 hs39 g2 CN
  refine wpFlow_one 7 (by decide +kernel) (by kernel_rfl) (by kernel_rfl) ?_
  refine wpFlowS_intro ?_
  simp only [pickOps_cons, pickOps_nil, pick1_zero, pick1_succ]
  intro δf
  go_wp2_with (go_at_call 13; refine (CM.out _ (GX.out.trans (G2.out.trans (by repeat (first | with_reducible exact Grew.refl _ | with_reducible apply Grew.alloc | with_reducible apply Grew.grow | with_reducible apply Grew.drew | with_reducible apply Grew.drewN))))).mono ?_; rintro e w3 ⟨v43, rfl, hs43, hg3⟩)
  refine ⟨(by first | assumption | (simp only [grow_grow, Array.append_assoc]; assumption) | exact Grew.refl _ | (simp only [grow_grow, Array.append_assoc]; exact (by repeat (first | with_reducible exact Grew.refl _ | with_reducible apply Grew.alloc | with_reducible apply Grew.grow | with_reducible apply Grew.drew | with_reducible apply Grew.drewN))) | exact (by repeat (first | with_reducible exact Grew.refl _ | with_reducible apply Grew.alloc | with_reducible apply Grew.grow | with_reducible apply Grew.drew | with_reducible apply Grew.drewN))), ?_⟩
  have g3 : Grew w2 w3 := (show Grew w2 _ from (by repeat (first | with_reducible exact Grew.refl _ | with_reducible apply Grew.alloc | with_reducible apply Grew.grow | with_reducible apply Grew.drew | with_reducible apply Grew.drewN))).trans hg3
  have CI := Lib.hid (fun W (g : Grew w3 W) => ids_w nx v39 v43 W (by omega) (S39.out.grew (g3.trans g)) (hs43.grew g))
  have G3 := Lib.hid (GX.out.trans (G2.out.trans g3))
  have s0 : w3.rowAt w.heap.size = iv id.l := by rw [Grew.rowAt (G2.out.trans g3) _ z0]; exact r0
  have s1 : w3.rowAt (w.heap.size + 1) = iv prev.l := by rw [Grew.rowAt (G2.out.trans g3) _ z1]; exact r1
  have y0 : w.heap.size < w3.heap.size := Nat.lt_of_lt_of_le z0 (G2.out.trans g3).size
  have y1 : w.heap.size + 1 < w3.heap.size := Nat.lt_of_lt_of_le z1 (G2.out.trans g3).size
  clear hg3 hs43 g3 CM r0 r1 z0 z1 G2 GX
  apply wpFlow_quiets [8] (by decide +kernel) (by decide +kernel) (by kernel_rfl) (by intro _ _ _ d _ h; cases d <;> exact h) _
  · intro A hA δ'
    simp only [pickOps_cons, pickOps_nil, pick1_zero, pick1_succ]
    repeat (go_big_quiet_step ((go_at_call 12; (with_reducible first | exact Calls.pure_of_g (CI.out _ (by repeat (first | with_reducible exact Grew.refl _ | with_reducible apply Grew.alloc | with_reducible apply Grew.grow | with_reducible apply Grew.drew | with_reducible apply Grew.drewN))) | exact Calls.pure_of_g3 (CI.out _ (by repeat (first | with_reducible exact Grew.refl _ | with_reducible apply Grew.alloc | with_reducible apply Grew.grow | with_reducible apply Grew.drew | with_reducible apply Grew.drewN)))))))
    exact wpQuiet_nil hA.out.symm
  apply wpFlow_quiets [9] (by decide +kernel) (by decide +kernel) (by kernel_rfl) (by intro _ _ _ d _ h; cases d <;> exact h) _
  · intro A hA δ'
    simp only [pickOps_cons, pickOps_nil, pick1_zero, pick1_succ]
    repeat (go_big_quiet_step ((fail)))
    exact wpQuiet_nil hA.out.symm
  refine wpFlow_end (by decide +kernel) (by kernel_rfl) ?_
  intro δf
  clear CI
  go_wp2_with (go_at_call 14; refine stop_of ?_)
  unfold Stop
  refine Calls_abs ?_
  intro X2 hX2
  have gX2 : Grew w3 X2 := by rw [hX2]; exact (by repeat (first | with_reducible exact Grew.refl _ | with_reducible apply Grew.alloc | with_reducible apply Grew.grow | with_reducible apply Grew.drew | with_reducible apply Grew.drewN))
  refine (CP.out _ (G3.out.trans gX2)).mono ?_
  rintro e W4 ⟨v5, rfl, ho, hg⟩
  have P5 := Lib.hid (ho.shows Idb.cs_len)
  have g4 : Grew w3 W4 := gX2.trans hg
  have G4 := Lib.hid g4
  clear ho hg gX2 hX2 g4 CP
  go_wp2_with (go_at_call 15; refine stop_of ?_)
  unfold Stop
  refine Calls_abs ?_
  intro X3 hX3
  have gX3 : Grew W4 X3 := by rw [hX3]; exact (by repeat (first | with_reducible exact Grew.refl _ | with_reducible apply Grew.alloc | with_reducible apply Grew.grow | with_reducible apply Grew.drew | with_reducible apply Grew.drewN))
  refine (CQ.out _ (G3.out.trans (G4.out.trans gX3))).mono ?_
  rintro e W5 ⟨v6, rfl, ho, hg⟩
  have g5 : Grew W4 W5 := gX3.trans hg
  have CI := Lib.hid (fun W (g : Grew W5 W) => ids_w ps v5 v6 W (by omega) (P5.out.grew (g5.trans g)) ((ho.shows Idb.cs_len).grew g))
  have G5 := Lib.hid (G3.out.trans (G4.out.trans g5))
  have t0 : W5.rowAt w.heap.size = iv id.l := by rw [Grew.rowAt (G4.out.trans g5) _ y0]; exact s0
  have t1 : W5.rowAt (w.heap.size + 1) = iv prev.l := by rw [Grew.rowAt (G4.out.trans g5) _ y1]; exact s1
  have x0 : w.heap.size < W5.heap.size := Nat.lt_of_lt_of_le y0 (G4.out.trans g5).size
  have x1 : w.heap.size + 1 < W5.heap.size := Nat.lt_of_lt_of_le y1 (G4.out.trans g5).size
  clear ho hg gX3 hX3 g5 CQ s0 s1 y0 y1 G4 G3 P5
  go_wp2_with (first | (go_at_call 12; refine (CI.out _ (by repeat (first | with_reducible exact Grew.refl _ | with_reducible apply Grew.alloc | with_reducible apply Grew.grow | with_reducible apply Grew.drew | with_reducible apply Grew.drewN))).mono ?_; rintro e w' ⟨rfl, δ1, rfl⟩) | (go_at_call 16; refine stop_of ?_))
  unfold Stop
  refine (CS.out _ (G5.out.trans (by repeat (first | with_reducible exact Grew.refl _ | with_reducible apply Grew.alloc | with_reducible apply Grew.grow | with_reducible apply Grew.drew | with_reducible apply Grew.drewN)))).mono ?_
  rintro e W6 ⟨rfl, hg⟩
  have g6 : Grew W5 W6 := (show Grew W5 _ from (by repeat (first | with_reducible exact Grew.refl _ | with_reducible apply Grew.alloc | with_reducible apply Grew.grow | with_reducible apply Grew.drew | with_reducible apply Grew.drewN))).trans hg
  have G6 := Lib.hid (G5.out.trans g6)
  have m0 : W6.rowAt w.heap.size = iv id.l := by rw [Grew.rowAt g6 _ x0]; exact t0
  have m1 : W6.rowAt (w.heap.size + 1) = iv prev.l := by rw [Grew.rowAt g6 _ x1]; exact t1
  have n0 : w.heap.size < W6.heap.size := Nat.lt_of_lt_of_le x0 g6.size
  have n1 : w.heap.size + 1 < W6.heap.size := Nat.lt_of_lt_of_le x1 g6.size
  clear hg g6 t0 t1 x0 x1 G5 CS CI
  go_wp2_with (go_at_call 17; refine stop_of ?_)
  unfold Stop
  refine Calls_abs ?_
  intro X4 hX4
  have gX4 : Grew W6 X4 := by rw [hX4]; exact (by repeat (first | with_reducible exact Grew.refl _ | with_reducible apply Grew.alloc | with_reducible apply Grew.grow | with_reducible apply Grew.drew | with_reducible apply Grew.drewN))
  have r20 : X4.rowAt W6.heap.size = iv R.l := by rw [hX4]; simp [go_sem]
  have z20 : W6.heap.size < X4.heap.size := by rw [hX4]; simp
  refine (CK.out _ (G6.out.trans gX4)).mono ?_
  rintro e W7 ⟨rfl, hg⟩
  have g7 : Grew W6 W7 := gX4.trans hg
  have G7 := Lib.hid (G6.out.trans g7)
  have k20 : W7.rowAt W6.heap.size = iv R.l := by rw [Grew.rowAt hg _ z20]; exact r20
  have j20 : W6.heap.size < W7.heap.size := Nat.lt_of_lt_of_le z20 hg.size
  have k0 : W7.rowAt w.heap.size = iv id.l := by rw [Grew.rowAt g7 _ n0]; exact m0
  have k1 : W7.rowAt (w.heap.size + 1) = iv prev.l := by rw [Grew.rowAt g7 _ n1]; exact m1
  have j0 : w.heap.size < W7.heap.size := Nat.lt_of_lt_of_le n0 g7.size
  have j1 : w.heap.size + 1 < W7.heap.size := Nat.lt_of_lt_of_le n1 g7.size
  clear hg g7 gX4 hX4 r20 z20 m0 m1 n0 n1 G6 CK
  go_wp2
  refine wp_region_flow (by kernel_rfl) ?_
  intro δf
  apply wpFlow_quiets [0,1,2,3,4,5,6,7,8,9,10] (by decide +kernel) (by decide +kernel) (by kernel_rfl) (by intro _ _ _ d _ h; cases d <;> exact h) _
  · intro A hA δ'
    simp only [pickOps_cons, pickOps_nil, pick1_zero, pick1_succ]
    repeat (go_big_quiet_step ((fail)))
    exact wpQuiet_nil hA.out.symm
  apply wpFlow_quiets [11] (by decide +kernel) (by decide +kernel) (by kernel_rfl) (by intro _ _ _ d _ h; cases d <;> exact h) _
  · intro A hA δ'
    simp only [pickOps_cons, pickOps_nil, pick1_zero, pick1_succ]
    repeat (go_big_quiet_step ((go_at_call 18; (with_reducible first | exact Calls.pure_of_g3 (CR.out _ (G7.out.trans (by repeat (first | with_reducible exact Grew.refl _ | with_reducible apply Grew.alloc | with_reducible apply Grew.grow | with_reducible apply Grew.drew | with_reducible apply Grew.drewN)))) | exact Calls.pure_of_g4 (CR.out _ (G7.out.trans (by repeat (first | with_reducible exact Grew.refl _ | with_reducible apply Grew.alloc | with_reducible apply Grew.grow | with_reducible apply Grew.drew | with_reducible apply Grew.drewN)))) | exact Calls.pure_of_g (CR.out _ (G7.out.trans (by repeat (first | with_reducible exact Grew.refl _ | with_reducible apply Grew.alloc | with_reducible apply Grew.grow | with_reducible apply Grew.drew | with_reducible apply Grew.drewN)))) | exact Calls.pure_of_g5 (CR.out _ (G7.out.trans (by repeat (first | with_reducible exact Grew.refl _ | with_reducible apply Grew.alloc | with_reducible apply Grew.grow | with_reducible apply Grew.drew | with_reducible apply Grew.drewN))))))))
    exact wpQuiet_nil hA.out.symm
  apply wpFlow_quiets [12,13,14,15,16,17,18] (by decide +kernel) (by decide +kernel) (by kernel_rfl) (by intro _ _ _ d _ h; cases d <;> exact h) _
  · intro A hA δ'
    simp only [pickOps_cons, pickOps_nil, pick1_zero, pick1_succ]
    repeat (go_big_quiet_step ((fail)))
    exact wpQuiet_nil hA.out.symm
  apply wpFlow_quiets [19] (by decide +kernel) (by decide +kernel) (by kernel_rfl) (by intro _ _ _ d _ h; cases d <;> exact h) _
  · intro A hA δ'
    simp only [pickOps_cons, pickOps_nil, pick1_zero, pick1_succ]
    repeat (go_big_quiet_step ((go_at_call 11; (with_reducible first | exact Calls.pure_of_g3 (CL.out _ (G7.out.trans (by repeat (first | with_reducible exact Grew.refl _ | with_reducible apply Grew.alloc | with_reducible apply Grew.grow | with_reducible apply Grew.drew | with_reducible apply Grew.drewN)))) | exact Calls.pure_of_g4 (CL.out _ (G7.out.trans (by repeat (first | with_reducible exact Grew.refl _ | with_reducible apply Grew.alloc | with_reducible apply Grew.grow | with_reducible apply Grew.drew | with_reducible apply Grew.drewN)))) | exact Calls.pure_of_g (CL.out _ (G7.out.trans (by repeat (first | with_reducible exact Grew.refl _ | with_reducible apply Grew.alloc | with_reducible apply Grew.grow | with_reducible apply Grew.drew | with_reducible apply Grew.drewN)))) | exact Calls.pure_of_g5 (CL.out _ (G7.out.trans (by repeat (first | with_reducible exact Grew.refl _ | with_reducible apply Grew.alloc | with_reducible apply Grew.grow | with_reducible apply Grew.drew | with_reducible apply Grew.drewN))))))))
    exact wpQuiet_nil hA.out.symm
  apply wpFlow_quiets [20,21,22,23,24,25,26,27,28,29] (by decide +kernel) (by decide +kernel) (by kernel_rfl) (by intro _ _ _ d _ h; cases d <;> exact h) _
  · intro A hA δ'
    simp only [pickOps_cons, pickOps_nil, pick1_zero, pick1_succ]
    repeat (go_big_quiet_step ((fail)))
    exact wpQuiet_nil hA.out.symm
  apply wpFlow_quiets [30] (by decide +kernel) (by decide +kernel) (by kernel_rfl) (by intro _ _ _ d _ h; cases d <;> exact h) _
  · intro A hA δ'
    simp only [pickOps_cons, pickOps_nil, pick1_zero, pick1_succ]
    repeat (go_big_quiet_step ((go_at_call 19; (with_reducible first | exact Calls.pure_of_g3 (C1.out _ (G7.out.trans (by repeat (first | with_reducible exact Grew.refl _ | with_reducible apply Grew.alloc | with_reducible apply Grew.grow | with_reducible apply Grew.drew | with_reducible apply Grew.drewN)))) | exact Calls.pure_of_g4 (C1.out _ (G7.out.trans (by repeat (first | with_reducible exact Grew.refl _ | with_reducible apply Grew.alloc | with_reducible apply Grew.grow | with_reducible apply Grew.drew | with_reducible apply Grew.drewN)))) | exact Calls.pure_of_g (C1.out _ (G7.out.trans (by repeat (first | with_reducible exact Grew.refl _ | with_reducible apply Grew.alloc | with_reducible apply Grew.grow | with_reducible apply Grew.drew | with_reducible apply Grew.drewN)))) | exact Calls.pure_of_g5 (C1.out _ (G7.out.trans (by repeat (first | with_reducible exact Grew.refl _ | with_reducible apply Grew.alloc | with_reducible apply Grew.grow | with_reducible apply Grew.drew | with_reducible apply Grew.drewN))))))))
    exact wpQuiet_nil hA.out.symm
  apply wpFlow_quiets [31,32,33,34,35,36] (by decide +kernel) (by decide +kernel) (by kernel_rfl) (by intro _ _ _ d _ h; cases d <;> exact h) _
  · intro A hA δ'
    simp only [pickOps_cons, pickOps_nil, pick1_zero, pick1_succ]
    repeat (go_big_quiet_step ((fail)))
    exact wpQuiet_nil hA.out.symm
  apply wpFlow_quiets [37] (by decide +kernel) (by decide +kernel) (by kernel_rfl) (by intro _ _ _ d _ h; cases d <;> exact h) _
  · intro A hA δ'
    simp only [pickOps_cons, pickOps_nil, pick1_zero, pick1_succ]
    repeat (go_big_quiet_step ((go_at_call 20; (with_reducible first | exact Calls.pure_of_g3 (C2.out _ (G7.out.trans (by repeat (first | with_reducible exact Grew.refl _ | with_reducible apply Grew.alloc | with_reducible apply Grew.grow | with_reducible apply Grew.drew | with_reducible apply Grew.drewN)))) | exact Calls.pure_of_g4 (C2.out _ (G7.out.trans (by repeat (first | with_reducible exact Grew.refl _ | with_reducible apply Grew.alloc | with_reducible apply Grew.grow | with_reducible apply Grew.drew | with_reducible apply Grew.drewN)))) | exact Calls.pure_of_g (C2.out _ (G7.out.trans (by repeat (first | with_reducible exact Grew.refl _ | with_reducible apply Grew.alloc | with_reducible apply Grew.grow | with_reducible apply Grew.drew | with_reducible apply Grew.drewN)))) | exact Calls.pure_of_g5 (C2.out _ (G7.out.trans (by repeat (first | with_reducible exact Grew.refl _ | with_reducible apply Grew.alloc | with_reducible apply Grew.grow | with_reducible apply Grew.drew | with_reducible apply Grew.drewN))))))))
    exact wpQuiet_nil hA.out.symm
  apply wpFlow_quiets [38,39,40] (by decide +kernel) (by decide +kernel) (by kernel_rfl) (by intro _ _ _ d _ h; cases d <;> exact h) _
  · intro A hA δ'
    simp only [pickOps_cons, pickOps_nil, pick1_zero, pick1_succ]
    repeat (go_big_quiet_step ((fail)))
    exact wpQuiet_nil hA.out.symm
  refine wpFlow_end (by decide +kernel) (by kernel_rfl) ?_
  intro δf
  go_wp2
  go_ret
  exact ⟨rfl, G7.out.trans (by repeat (first | with_reducible exact Grew.refl _ | with_reducible apply Grew.alloc | with_reducible apply Grew.grow | with_reducible apply Grew.drew | with_reducible apply Grew.drewN))⟩
end Go.Proofs.Ytinkdkcmmjfhoaa
namespace Go.Proofs.Ytinkdkcmmjfhoaa.linkTells
set_option linter.unusedVariables false
set_option linter.unusedSimpArgs false
open Go.ChangeShapes Go.WideShapes Go.ChangeAt Go.RowKit

set_option maxRecDepth 100000 in
theorem lifted (os : Os) (started : os.Started) (H : Type) (enc : TypeId × Value → H) :
    ReturnsInHanded {} Try.checked os 6 .any (Rows.linkTellsSpec.pre6 enc Try.prog Try.f6 Rows.linkTellsRow.domain false) (Rows.linkTellsSpec.post enc Try.prog Try.f6 false true false false) := by
  refine returnsInHanded_of_change (C := Try.checked) own started (by kernel_rfl) Try.func6
    (ChangeSpec.witness6 (enc := enc) (C := Try.checked) false ⟨#[], #[.slice none 0 0, .agg (Array.replicate 32 (.int .u8 0)), .agg (Array.replicate 32 (.int .u8 0)), .int .i64 0, .int .i64 0, .slice none 0 0], []⟩ 8 (by kernel_rfl) (by kernel_rfl) (by kernel_rfl) (by kernel_rfl)) ?_
  intro W base args ds gs before hval0 hW _ _
  have hval : ∀ (j : Nat) t v, Try.f6.params[j]? = some t → args[j]? = some v → Value.okWide Try.prog W .any base t v := hval0
  have hW' := hW
  obtain ⟨p, q, hA0, hV, rfl, hfz, hnd⟩ := hW
  have hA : DataW.TrodAll enc Try.prog W 0 (fun _ => true) true Try.f6.params.toList args.toList ds p := hA0
  have hAk := hA
  rw [Try.params6] at hA hval
  obtain ⟨v0, vs0, d0, ds0, p0, q0, hargs0, rfl, rfl, h0, r0⟩ := trodAll_cons hA
  obtain ⟨v1, vs1, d1, ds1, p1, q1, hargs1, rfl, rfl, h1, r1⟩ := trodAll_cons r0
  obtain ⟨v2, vs2, d2, ds2, p2, q2, hargs2, rfl, rfl, h2, r2⟩ := trodAll_cons r1
  obtain ⟨v3, vs3, d3, ds3, p3, q3, hargs3, rfl, rfl, h3, r3⟩ := trodAll_cons r2
  obtain ⟨v4, vs4, d4, ds4, p4, q4, hargs4, rfl, rfl, h4, r4⟩ := trodAll_cons r3
  obtain ⟨v5, vs5, d5, ds5, p5, q5, hargs5, rfl, rfl, h5, r5⟩ := trodAll_cons r4
  obtain ⟨rfl, rfl, rfl⟩ := trodAll_nil r5
  subst hargs5
  subst hargs4
  subst hargs3
  subst hargs2
  subst hargs1
  obtain rfl : args = #[v0, v1, v2, v3, v4, v5] := by cases args; simp_all
  obtain ⟨rfl, rfl⟩ := trodVars_none hV
  obtain ⟨q0', n0', c0', rfl⟩ := okWide_slice Try.underlying22 (hval 0 22 v0 rfl rfl)
  obtain ⟨aq0, ac0, al0, ae0, am0, as0⟩ := open_ids h0 rfl
  rw [ae0]
  obtain ⟨a1, rfl, _, _⟩ := open_id (hval 1 24 v1 rfl rfl) h1
  obtain ⟨a2, rfl, _, _⟩ := open_id (hval 2 24 v2 rfl rfl) h2
  obtain ⟨a3, rfl, rfl, _, w3⟩ := open_int Try.underlying3 (hval 3 3 v3 rfl rfl) h3
  obtain ⟨a4, rfl, rfl, _, w4⟩ := open_int Try.underlying3 (hval 4 3 v4 rfl rfl) h4
  obtain ⟨q5', n5', c5', rfl⟩ := okWide_slice Try.underlying22 (hval 5 22 v5 rfl rfl)
  obtain ⟨aq5, ac5, al5, ae5, am5, as5⟩ := open_ids h5 rfl
  rw [ae5]
  simp only [List.append_nil] at hW'
  refine (linkTells_walk aq0 ac0 al0 am0 a1 a2 a3 a4 aq5 ac5 al5 am5 W as0 as5).mono fun e W' ⟨he, hg⟩ => ?_
  subst he
  rw [← ae0]
  rw [← ae5]
  exact ⟨_, rfl, post_of_stays hW' rfl (by simpa using hAk) (types_ok _ (by rw [Try.params6]; kernel_rfl)) rfl rfl (fun _ _ _ => (trodAll_cons_mk (shut_bool Try.underlying4 _) trodAll_mk0))
    hg (ok_one (by kernel_rfl) rfl (okWide_bool_mk Try.underlying4 _))⟩

theorem proved : Rows.LinkTellsSaid :=
  OpenClaim.holds_of_wide 6 Try.f6 rfl rfl rfl rfl rfl rfl rfl ⟨rfl, rfl, rfl, rfl, rfl⟩ rfl rfl rfl rfl rfl (by kernel_rfl) Try.func6 (by kernel_rfl)
    (of_decide_eq_true (by kernel_rfl)) (by unfold Func.isWrapper; first | (rw [if_pos (by decide +kernel)]; kernel_rfl) | (rw [if_neg (by decide +kernel)]; exact ⟨rfl, rfl⟩))
    (fun os started H enc _ => lifted os started H enc)
end Go.Proofs.Ytinkdkcmmjfhoaa.linkTells
