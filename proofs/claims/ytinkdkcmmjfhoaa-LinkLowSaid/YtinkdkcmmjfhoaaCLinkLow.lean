/- 'stepladderlaw07.LinkLow' answers true for every slice of ids, id, int, int, without panicking, and what it was handed reads as before. Conditions: none. -/
import Derived.Test.YtinkdkcmmjfhoaaRows
import Derived.Test.YtinkdkcmmjfhoaaM6
/- The walk of LinkPaths. -/
namespace Go.Proofs.Ytinkdkcmmjfhoaa
set_option linter.unusedVariables false
set_option linter.unusedSimpArgs false
open Go.RowKit
theorem exit_abs {Q : Exit → Act → World → Prop} {e : Exit} {a : Act} {X : World} (h : ∀ Y, Y = X → Q e a Y) : Q e a X := h X rfl
theorem leads_in {ls : List Idb} {id x : Idb} {k : Nat} (prev : Idb) (hx : ls[k]? = some x) (h : x = id) : leads ls prev id = true := by
  subst h
  unfold leads
  rw [anyB_at hx (decide_eq_true rfl), Bool.or_true]
theorem leads_self (ls : List Idb) (p : Idb) : leads ls p p = true := by
  unfold leads
  rw [show ieq p.l p.l = true from decide_eq_true rfl, Bool.true_or]
set_option maxRecDepth 100000 in
set_option maxHeartbeats 6400000 in
theorem linkPaths_walk (q : Option Addr) (c : Nat) (l : List Idb) (hm : l.length ≤ maxLen) (i : Int) (r : Idb) (w : World) (hs : ShowsI w (.slice q l.length c) l) :
    Calls Try.prog 7 #[.slice q l.length c, .int .i64 i, .agg (iv r.l)] w fun e w' => e = .returned (.bool true) ∧ Grew w w' := by
  have HS := Lib.hid hs
  clear hs hm
  have hrl := r.len
  obtain ⟨N, hN⟩ : ∃ N, l.length = N := ⟨_, rfl⟩
  have HN := Lib.hid hN
  rw [hN] at HS ⊢
  clear hN
  by_cases h4 : ¬ (¬ 64 < (N : Int) ∧ ¬ i < 0 ∧ ¬ (N : Int) ≤ i)
  · have h5 : 64 < (N : Int) ∨ (¬ 64 < (N : Int) ∧ i < 0) ∨ (¬ 64 < (N : Int) ∧ ¬ i < 0 ∧ (N : Int) ≤ i) := by omega
    clear h4
    rcases h5 with h1 | ⟨h1, h2⟩ | ⟨h1, h2, h3⟩
    all_goals
      go_enter Try.func7, Try.ntmps7
      go_wp2_with (go_at_call 9; refine (awake_w _).mono ?_; rintro e w' ⟨rfl, δ, rfl⟩)
      go_ret
      exact ⟨rfl, (by repeat (first | with_reducible exact Grew.refl _ | with_reducible apply Grew.alloc | with_reducible apply Grew.grow | with_reducible apply Grew.drew | with_reducible apply Grew.drewN))⟩
  obtain ⟨h1, h2, h3⟩ : ¬ 64 < (N : Int) ∧ ¬ i < 0 ∧ ¬ (N : Int) ≤ i := by omega
  clear h4
  obtain ⟨j, rfl⟩ : ∃ j : Nat, i = (j : Int) := ⟨i.toNat, by omega⟩
  have hlen := HN.out
  obtain ⟨x, hx⟩ : ∃ x, l[j]? = some x := ⟨_, List.getElem?_eq_getElem (by omega)⟩
  have hxl := x.len
  have hok : pathOk l j = true := decide_eq_true (by omega)
  have hok2 : pathOk (leavesL l) j = true := by rw [pathOk_leaves]; exact hok
  have hof : pathOf (leavesL l) j = path (leavesL l) j := by unfold pathOf; rw [if_pos hok2]; rfl
  have CP := Lib.hid (fun W (g : Grew w W) => lpath_w l j (.slice q N c) W (by omega) (HS.out.grew g))
  rw [hok, hof] at CP
  have hpl := path_len (leavesL l) j (by rw [leavesL_len]; omega)
  have hsl := side_len (leavesL l).length j (by rw [leavesL_len]; omega) (by rw [leavesL_len]; omega)
  have hck := chk_path (leavesL l) j _ (by rw [leavesL_len]; omega) (leavesL_get l j x hx)
  rw [leavesL_len, hlen] at hck hsl
  have CR := Lib.hid (fun W (g : Grew w W) => lroot_w l (.slice q N c) W (by omega) (HS.out.grew g))
  have CL1 := Lib.hid (fun W (g : Grew w W) => leads_w l r x (.slice q N c) W (by omega) (HS.out.grew g))
  have CL2 := Lib.hid (fun W (g : Grew w W) => leads_w l r r (.slice q N c) W (by omega) (HS.out.grew g))
  rw [leads_in r hx rfl] at CL1
  rw [leads_self] at CL2
  have hrl2 := (root (leavesL l)).len
  obtain ⟨R, hR⟩ : ∃ R, root (leavesL l) = R := ⟨_, rfl⟩
  rw [hR] at CR hck hrl2
  obtain ⟨ps, hps⟩ : ∃ ps, path (leavesL l) j = ps := ⟨_, rfl⟩
  rw [hps] at CP hck hpl
  have hp64 : ps.length ≤ 100000 := by rw [hpl, leavesL_len, hlen]; omega
  have hhs := HS.out
  rw [← HN.out] at hhs
  obtain ⟨b, o, rfl, _, hcc, hb, hat⟩ := showsI_some hhs (by omega)
  have QL := Lib.hid (fun W (g : Grew w W) δ => load_idg (World.rangeAt.grew (hat j x hx) g) δ)
  have C1 := Lib.hid hck
  clear hhs hck hat hR hps hx hok hok2 hof hcc hpl hsl hlen
  go_enter Try.func7, Try.ntmps7
  go_wp2_with (first | (go_at_call 9; refine (awake_w _).mono ?_; rintro e w' ⟨rfl, δ, rfl⟩) | (go_at_call 14; refine stop_of ?_))
  unfold Stop
  refine Calls_abs ?_
  intro X hX
  have gX : Grew w X := by rw [hX]; exact (by repeat (first | with_reducible exact Grew.refl _ | with_reducible apply Grew.alloc | with_reducible apply Grew.grow | with_reducible apply Grew.drew | with_reducible apply Grew.drewN))
  have rX : X.rowAt w.heap.size = iv r.l := by rw [hX]; simp [go_sem]
  have zX : w.heap.size < X.heap.size := by rw [hX]; simp; omega
  clear hX
  refine (CP.out X gX).mono ?_
  rintro e W1 ⟨v1, rfl, ho, hg⟩
  have PS := Lib.hid (ho.shows Idb.cs_len)
  have G1 := Lib.hid (gX.trans hg)
  have r1 : W1.rowAt w.heap.size = iv r.l := by rw [Grew.rowAt hg _ zX]; exact rX
  have z1 : w.heap.size < W1.heap.size := Nat.lt_of_lt_of_le zX hg.size
  have CC := Lib.hid (fun W (g : Grew W1 W) => lcheck_w R N j x ps v1 W (PS.out.grew g) hp64)
  rw [C1.out] at CC
  have q1 := QL.out W1 G1.out
  clear ho hg gX rX zX CP QL C1 PS
  go_wp2
  refine wp_region_flow (by kernel_rfl) ?_
  intro δf
  apply wpFlow_quiets [0,1,2] (by decide +kernel) (by decide +kernel) (by kernel_rfl) (by intro _ _ _ d _ h; cases d <;> exact h) _
  · intro A hA δ'
    simp only [pickOps_cons, pickOps_nil, pick1_zero, pick1_succ]
    repeat (go_big_quiet_step ((fail)))
    exact wpQuiet_nil hA.out.symm
  apply wpFlow_quiets [3] (by decide +kernel) (by decide +kernel) (by kernel_rfl) (by intro _ _ _ d _ h; cases d <;> exact h) _
  · intro A hA δ'
    simp only [pickOps_cons, pickOps_nil, pick1_zero, pick1_succ]
    repeat (go_big_quiet_step ((go_at_call 18; (with_reducible first | exact Calls.pure_of_g3 (CR.out _ (G1.out.trans (by repeat (first | with_reducible exact Grew.refl _ | with_reducible apply Grew.alloc | with_reducible apply Grew.grow | with_reducible apply Grew.drew | with_reducible apply Grew.drewN)))) | exact Calls.pure_of_g4 (CR.out _ (G1.out.trans (by repeat (first | with_reducible exact Grew.refl _ | with_reducible apply Grew.alloc | with_reducible apply Grew.grow | with_reducible apply Grew.drew | with_reducible apply Grew.drewN)))) | exact Calls.pure_of_g (CR.out _ (G1.out.trans (by repeat (first | with_reducible exact Grew.refl _ | with_reducible apply Grew.alloc | with_reducible apply Grew.grow | with_reducible apply Grew.drew | with_reducible apply Grew.drewN)))) | exact Calls.pure_of_g5 (CR.out _ (G1.out.trans (by repeat (first | with_reducible exact Grew.refl _ | with_reducible apply Grew.alloc | with_reducible apply Grew.grow | with_reducible apply Grew.drew | with_reducible apply Grew.drewN))))))))
    exact wpQuiet_nil hA.out.symm
  apply wpFlow_quiets [4,5,6,7,8,9,10,11] (by decide +kernel) (by decide +kernel) (by kernel_rfl) (by intro _ _ _ d _ h; cases d <;> exact h) _
  · intro A hA δ'
    simp only [pickOps_cons, pickOps_nil, pick1_zero, pick1_succ]
    repeat (go_big_quiet_step ((fail)))
    exact wpQuiet_nil hA.out.symm
  apply wpFlow_quiets [12] (by decide +kernel) (by decide +kernel) (by kernel_rfl) (by intro _ _ _ d _ h; cases d <;> exact h) _
  · intro A hA δ'
    simp only [pickOps_cons, pickOps_nil, pick1_zero, pick1_succ]
    repeat (go_big_quiet_step ((go_at_call 19; (with_reducible first | exact Calls.pure_of_g3 (CC.out _ (by repeat (first | with_reducible exact Grew.refl _ | with_reducible apply Grew.alloc | with_reducible apply Grew.grow | with_reducible apply Grew.drew | with_reducible apply Grew.drewN))) | exact Calls.pure_of_g4 (CC.out _ (by repeat (first | with_reducible exact Grew.refl _ | with_reducible apply Grew.alloc | with_reducible apply Grew.grow | with_reducible apply Grew.drew | with_reducible apply Grew.drewN))) | exact Calls.pure_of_g (CC.out _ (by repeat (first | with_reducible exact Grew.refl _ | with_reducible apply Grew.alloc | with_reducible apply Grew.grow | with_reducible apply Grew.drew | with_reducible apply Grew.drewN))) | exact Calls.pure_of_g5 (CC.out _ (by repeat (first | with_reducible exact Grew.refl _ | with_reducible apply Grew.alloc | with_reducible apply Grew.grow | with_reducible apply Grew.drew | with_reducible apply Grew.drewN)))))))
    exact wpQuiet_nil hA.out.symm
  apply wpFlow_quiets [13,14,15,16,17,18,19,20] (by decide +kernel) (by decide +kernel) (by kernel_rfl) (by intro _ _ _ d _ h; cases d <;> exact h) _
  · intro A hA δ'
    simp only [pickOps_cons, pickOps_nil, pick1_zero, pick1_succ]
    repeat (go_big_quiet_step ((fail)))
    exact wpQuiet_nil hA.out.symm
  apply wpFlow_quiets [21] (by decide +kernel) (by decide +kernel) (by kernel_rfl) (by intro _ _ _ d _ h; cases d <;> exact h) _
  · intro A hA δ'
    simp only [pickOps_cons, pickOps_nil, pick1_zero, pick1_succ]
    repeat (go_big_quiet_step ((go_at_call 11; (with_reducible first | exact Calls.pure_of_g3 (CL1.out _ (G1.out.trans (by repeat (first | with_reducible exact Grew.refl _ | with_reducible apply Grew.alloc | with_reducible apply Grew.grow | with_reducible apply Grew.drew | with_reducible apply Grew.drewN)))) | exact Calls.pure_of_g4 (CL1.out _ (G1.out.trans (by repeat (first | with_reducible exact Grew.refl _ | with_reducible apply Grew.alloc | with_reducible apply Grew.grow | with_reducible apply Grew.drew | with_reducible apply Grew.drewN)))) | exact Calls.pure_of_g (CL1.out _ (G1.out.trans (by repeat (first | with_reducible exact Grew.refl _ | with_reducible apply Grew.alloc | with_reducible apply Grew.grow | with_reducible apply Grew.drew | with_reducible apply Grew.drewN)))) | exact Calls.pure_of_g5 (CL1.out _ (G1.out.trans (by repeat (first | with_reducible exact Grew.refl _ | with_reducible apply Grew.alloc | with_reducible apply Grew.grow | with_reducible apply Grew.drew | with_reducible apply Grew.drewN))))))))
    exact wpQuiet_nil hA.out.symm
  apply wpFlow_quiets [22,23,24,25,26] (by decide +kernel) (by decide +kernel) (by kernel_rfl) (by intro _ _ _ d _ h; cases d <;> exact h) _
  · intro A hA δ'
    simp only [pickOps_cons, pickOps_nil, pick1_zero, pick1_succ]
    repeat (go_big_quiet_step ((fail)))
    exact wpQuiet_nil hA.out.symm
  apply wpFlow_quiets [27] (by decide +kernel) (by decide +kernel) (by kernel_rfl) (by intro _ _ _ d _ h; cases d <;> exact h) _
  · intro A hA δ'
    simp only [pickOps_cons, pickOps_nil, pick1_zero, pick1_succ]
    repeat (go_big_quiet_step ((go_at_call 11; (with_reducible first | exact Calls.pure_of_g3 (CL2.out _ (G1.out.trans (by repeat (first | with_reducible exact Grew.refl _ | with_reducible apply Grew.alloc | with_reducible apply Grew.grow | with_reducible apply Grew.drew | with_reducible apply Grew.drewN)))) | exact Calls.pure_of_g4 (CL2.out _ (G1.out.trans (by repeat (first | with_reducible exact Grew.refl _ | with_reducible apply Grew.alloc | with_reducible apply Grew.grow | with_reducible apply Grew.drew | with_reducible apply Grew.drewN)))) | exact Calls.pure_of_g (CL2.out _ (G1.out.trans (by repeat (first | with_reducible exact Grew.refl _ | with_reducible apply Grew.alloc | with_reducible apply Grew.grow | with_reducible apply Grew.drew | with_reducible apply Grew.drewN)))) | exact Calls.pure_of_g5 (CL2.out _ (G1.out.trans (by repeat (first | with_reducible exact Grew.refl _ | with_reducible apply Grew.alloc | with_reducible apply Grew.grow | with_reducible apply Grew.drew | with_reducible apply Grew.drewN))))))))
    exact wpQuiet_nil hA.out.symm
  apply wpFlow_quiets [28,29] (by decide +kernel) (by decide +kernel) (by kernel_rfl) (by intro _ _ _ d _ h; cases d <;> exact h) _
  · intro A hA δ'
    simp only [pickOps_cons, pickOps_nil, pick1_zero, pick1_succ]
    repeat (go_big_quiet_step ((fail)))
    exact wpQuiet_nil hA.out.symm
  refine wpFlow_end (by decide +kernel) (by kernel_rfl) ?_
  intro δf
  go_wp2
  go_ret
  exact ⟨rfl, G1.out.trans (by repeat (first | with_reducible exact Grew.refl _ | with_reducible apply Grew.alloc | with_reducible apply Grew.grow | with_reducible apply Grew.drew | with_reducible apply Grew.drewN))⟩
end Go.Proofs.Ytinkdkcmmjfhoaa
/- The walk of LinkLow. -/
namespace Go.Proofs.Ytinkdkcmmjfhoaa
set_option linter.unusedVariables false
set_option linter.unusedSimpArgs false
open Go.RowKit
theorem lev_31 : lev 31 = 31 := by decide
set_option maxRecDepth 100000 in
set_option maxHeartbeats 6400000 in
theorem linkLow_walk (q : Option Addr) (c : Nat) (l : List Idb) (hm : l.length ≤ maxLen) (id : Idb) (level n : Int) (w : World) (hs : ShowsI w (.slice q l.length c) l) :
    Calls Try.prog 5 #[.slice q l.length c, .agg (iv id.l), .int .i64 level, .int .i64 n] w fun e w' => e = .returned (.bool true) ∧ Grew w w' := by
  have HS := Lib.hid hs
  clear hs hm
  have hil := id.len
  obtain ⟨N, hN⟩ : ∃ N, l.length = N := ⟨_, rfl⟩
  have HN := Lib.hid hN
  rw [hN] at HS ⊢
  clear hN
  by_cases h4 : ¬ (¬ 32 < (N : Int) ∧ ¬ (N : Int) = 0)
  · have h5 : 32 < (N : Int) ∨ (¬ 32 < (N : Int) ∧ (N : Int) = 0) := by omega
    clear h4
    rcases h5 with h1 | ⟨h1, h2⟩
    all_goals
      go_enter Try.func5, Try.ntmps5
      go_wp2_with (go_at_call 9; refine (awake_w _).mono ?_; rintro e w' ⟨rfl, δ, rfl⟩)
      go_ret
      exact ⟨rfl, (by repeat (first | with_reducible exact Grew.refl _ | with_reducible apply Grew.alloc | with_reducible apply Grew.grow | with_reducible apply Grew.drew | with_reducible apply Grew.drewN))⟩
  obtain ⟨h1, h2⟩ : ¬ 32 < (N : Int) ∧ ¬ (N : Int) = 0 := by omega
  clear h4
  have hd0 : ((N : Int) == 0) = false := by simp; omega
  have hlen := HN.out
  have h0 : 0 < l.length := by omega
  have CA := Lib.hid (fun W (g : Grew w W) => next_w l id level (.slice q N c) W (by omega) (HS.out.grew g))
  have CB := Lib.hid (fun W (g : Grew w W) => next_w l id 31 (.slice q N c) W (by omega) (HS.out.grew g))
  have hnx := nextL_grow l id 31 (by omega) h0
  have hny := nextL_grow l id level (by omega) h0
  rw [lev_31] at hnx
  rw [hnx] at CB
  have hlow : ¬ 0 < level → nextL l id level = l := fun h => by rw [hny, lev_low level (by omega), growL_0]
  have hgl := growL_len l id 31 h0
  have hgg := fun j => growL_get l id 31 j h0
  obtain ⟨ms, hms⟩ : ∃ ms, growL l id 31 = ms := ⟨_, rfl⟩
  rw [hms] at CB hgl hgg
  have hM : ms.length = 32 := by rw [hgl, hlen]; omega
  obtain ⟨zs, has⟩ : ∃ zs, nextL l id level = zs := ⟨_, rfl⟩
  rw [has] at CA hlow
  obtain ⟨x0, hx0⟩ : ∃ x, l[0]? = some x := ⟨_, List.getElem?_eq_getElem h0⟩
  have hm0 : ms[0]? = some x0 := by rw [hgg 0, if_pos rfl]; exact hx0
  have hx0l := x0.len
  have hhs := HS.out
  rw [← HN.out] at hhs
  obtain ⟨b, o, rfl, _, hcc, hb, hat⟩ := showsI_some hhs h0
  have QL := Lib.hid (fun (j : Nat) (x : Idb) (hx : l[j]? = some x) W (g : Grew w W) δ => load_idg (World.rangeAt.grew (hat j x hx) g) δ)
  have HMs := Lib.hid hM
  have HGG := Lib.hid hgg
  have HX0 := Lib.hid hx0
  have HM0 := Lib.hid hm0
  have HLOW := Lib.hid hlow
  clear hhs hat hnx hny hms has hcc hM hlen hgg hx0 hm0 h0 hgl hlow
  go_enter Try.func5, Try.ntmps5
  go_wp2_with (first | (go_at_call 9; refine (awake_w _).mono ?_; rintro e w' ⟨rfl, δ, rfl⟩) | (go_at_call 10; refine stop_of ?_))
  unfold Stop
  refine Calls_abs ?_
  intro X hX
  have gX : Grew w X := by rw [hX]; exact (by repeat (first | with_reducible exact Grew.refl _ | with_reducible apply Grew.alloc | with_reducible apply Grew.grow | with_reducible apply Grew.drew | with_reducible apply Grew.drewN))
  have rX : X.rowAt w.heap.size = iv id.l := by rw [hX]; simp [go_sem]
  have zX : w.heap.size < X.heap.size := by rw [hX]; simp; omega
  clear hX
  refine (CA.out X gX).mono ?_
  rintro e W0 ⟨va, rfl, hsa, hg⟩
  obtain ⟨pa, ca, rfl⟩ := showsI_form hsa
  obtain ⟨A, hA⟩ : ∃ A, zs.length = A := ⟨_, rfl⟩
  have HA := Lib.hid hA
  rw [hA] at hsa ⊢
  have SA := Lib.hid hsa
  have G0 := Lib.hid (gX.trans hg)
  have r0 : W0.rowAt w.heap.size = iv id.l := by rw [Grew.rowAt hg _ zX]; exact rX
  have z0 : w.heap.size < W0.heap.size := Nat.lt_of_lt_of_le zX hg.size
  clear hsa hg gX rX zX CA hA
  go_wp2_with (go_at_call 10; refine stop_of ?_)
  unfold Stop
  refine Calls_abs ?_
  intro X2 hX2
  have gX2 : Grew W0 X2 := by rw [hX2]; exact (by repeat (first | with_reducible exact Grew.refl _ | with_reducible apply Grew.alloc | with_reducible apply Grew.grow | with_reducible apply Grew.drew | with_reducible apply Grew.drewN))
  refine (CB.out X2 (G0.out.trans gX2)).mono ?_
  rintro e W1 ⟨v1, rfl, hms1, hg⟩
  obtain ⟨p1, c1, rfl⟩ := showsI_form hms1
  have hms2 := hms1
  rw [HMs.out] at hms1 ⊢
  obtain ⟨b1, o1, rfl, _, hcc1, hb1, hat1⟩ := showsI_some hms2 (by rw [HMs.out]; omega)
  have g1 : Grew W0 W1 := gX2.trans hg
  have G1 := Lib.hid (G0.out.trans g1)
  have r1 : W1.rowAt w.heap.size = iv id.l := by rw [Grew.rowAt g1 _ z0]; exact r0
  have z1 : w.heap.size < W1.heap.size := Nat.lt_of_lt_of_le z0 g1.size
  have SA1 := Lib.hid (SA.out.grew g1)
  have q0 := QL.out 0 x0 HX0.out W1 G1.out
  have q1 : ∀ δ, (rowLoad 24 (.pointer (some ⟨b1, o1 + 0 * 32, none⟩))).run Try.prog (W1.grow δ) = .ok (.value (.agg (iv x0.l))) (W1.grow δ) := fun δ => load_idg (hat1 0 x0 HM0.out) δ
  rw [Nat.zero_mul, Nat.add_zero] at q0 q1
  have QM := Lib.hid (fun (j : Nat) (x : Idb) (hx : ms[j]? = some x) W (g : Grew W1 W) δ => load_idg (World.rangeAt.grew (hat1 j x hx) g) δ)
  have e0 : ieq x0.l x0.l = true := decide_eq_true rfl
  have e1 : ieq id.l id.l = true := decide_eq_true rfl
  have hMc : (32 : Int) ≤ (c1 : Int) := by have := HMs.out; omega
  have hN0 : (0 : Int) < (N : Int) := by omega
  clear hms1 hms2 hat1 hg CB hcc1 g1 gX2 hX2 r0 z0 SA G0
  have key : (n < 1) ∨ (¬ n < 1 ∧ 32 ≤ n) ∨ ∃ k : Nat, n = (k : Int) ∧ 1 ≤ k ∧ k ≤ 31 := by
    by_cases hA : n < 1
    · exact .inl hA
    · by_cases hB : 32 ≤ n
      · exact .inr (.inl ⟨hA, hB⟩)
      · exact .inr (.inr ⟨n.toNat, by omega, by omega, by omega⟩)
  rcases key with hA | ⟨hA, hB⟩ | ⟨k, rfl, hk1, hk2⟩
  · have d1 : decide (1 ≤ n) = false := decide_eq_false (by omega)
    go_wp2
    refine wp_region_flow (by kernel_rfl) ?_
    intro δf
    apply wpFlow_quiets [0,1,2,3,4,5,6,7,8,9,10,11,12,13,14,15,16,17,18,19,20,21,22,23,24,25,26,27] (by decide +kernel) (by decide +kernel) (by kernel_rfl) (by intro _ _ _ d _ h; cases d <;> exact h) _
    · intro A hA δ'
      simp only [pickOps_cons, pickOps_nil, pick1_zero, pick1_succ]
      repeat (go_big_quiet_step ((fail)))
      exact wpQuiet_nil hA.out.symm
    refine wpFlow_end (by decide +kernel) (by kernel_rfl) ?_
    intro δf
    refine exit_abs ?_
    intro Y hY
    have gY : Grew W1 Y := by rw [hY]; exact (by repeat (first | with_reducible exact Grew.refl _ | with_reducible apply Grew.alloc | with_reducible apply Grew.grow | with_reducible apply Grew.drew | with_reducible apply Grew.drewN))
    have GY := Lib.hid (G1.out.trans gY)
    have SA2 := Lib.hid (SA1.out.grew gY)
    clear hY gY q0 q1
    by_cases hL : 0 < level
    · go_wp2
      go_ret
      exact ⟨rfl, GY.out⟩
    · obtain rfl := HLOW.out (by omega)
      have hAN : A = N := by rw [← HA.out, HN.out]
      subst hAN
      clear HLOW SA1
      go_wp2
      go_loopw [12] (fun i wr => ∃ k : Nat, k ≤ A ∧ i = .int .i64 k ∧ Grew Y wr) (fun i _ => A - (intOf i).toNat)
      case atStart => exact ⟨0, by omega, rfl, Grew.refl _⟩
      case round =>
        obtain ⟨j, hj, rfl, g⟩ := hrel
        have HG := Lib.hid g
        clear g
        by_cases hjA : j < A
        · have hlt : (j : Int) < (A : Int) := by omega
          obtain ⟨u, hu⟩ : ∃ y, zs[j]? = some y := ⟨_, List.getElem?_eq_getElem (by rw [HN.out]; exact hjA)⟩
          have hs2 := SA2.out
          rw [← HA.out] at hs2
          obtain ⟨b2, o2, rfl, _, hcc2, hb2, hat2⟩ := showsI_some hs2 (by rw [HA.out]; omega)
          have q5 : ∀ δ, (rowLoad 24 (.pointer (some ⟨b2, o2 + j * 32, none⟩))).run Try.prog (wr.grow δ) = .ok (.value (.agg (iv u.l))) (wr.grow δ) := fun δ => load_idm (World.rangeAt.grew (hat2 j u hu) (HG.out.trans ⟨δ, rfl⟩))
          have q6 := QL.out j u hu wr (GY.out.trans HG.out)
          have hul := u.len
          have e5 : ieq u.l u.l = true := decide_eq_true rfl
          clear hs2 hat2 hu hcc2
          go_wp2
          refine wp_region_flow (by kernel_rfl) ?_
          intro δf
          apply wpFlow_quiets [0,1,2,3,4,5,6,7,8,9,10,11,12,13,14,15] (by decide +kernel) (by decide +kernel) (by kernel_rfl) (by intro _ _ _ d _ h; cases d <;> exact h) _
          · intro A hA δ'
            simp only [pickOps_cons, pickOps_nil, pick1_zero, pick1_succ]
            repeat (go_big_quiet_step ((fail)))
            exact wpQuiet_nil hA.out.symm
          refine wpFlow_end (by decide +kernel) (by kernel_rfl) ?_
          intro δf
          go_wp2
          exact ⟨⟨j + 1, by omega, by go_num, HG.out.trans (by repeat (first | with_reducible exact Grew.refl _ | with_reducible apply Grew.alloc | with_reducible apply Grew.grow | with_reducible apply Grew.drew | with_reducible apply Grew.drewN))⟩, by simp only [intOf]; omega⟩
        · obtain rfl : j = A := by omega
          have hge : ¬ ((j : Int) < (j : Int)) := by omega
          go_wp2
          go_ret
          exact ⟨rfl, GY.out.trans HG.out⟩
  · have d1 : decide (1 ≤ n) = true := decide_eq_true (by omega)
    have d2 : decide (n < 32) = false := decide_eq_false (by omega)
    go_wp2
    refine wp_region_flow (by kernel_rfl) ?_
    intro δf
    apply wpFlow_quiets [0,1,2,3,4,5,6,7,8,9,10,11,12,13,14,15,16,17,18,19,20,21,22,23,24,25,26,27] (by decide +kernel) (by decide +kernel) (by kernel_rfl) (by intro _ _ _ d _ h; cases d <;> exact h) _
    · intro A hA δ'
      simp only [pickOps_cons, pickOps_nil, pick1_zero, pick1_succ]
      repeat (go_big_quiet_step ((fail)))
      exact wpQuiet_nil hA.out.symm
    refine wpFlow_end (by decide +kernel) (by kernel_rfl) ?_
    intro δf
    refine exit_abs ?_
    intro Y hY
    have gY : Grew W1 Y := by rw [hY]; exact (by repeat (first | with_reducible exact Grew.refl _ | with_reducible apply Grew.alloc | with_reducible apply Grew.grow | with_reducible apply Grew.drew | with_reducible apply Grew.drewN))
    have GY := Lib.hid (G1.out.trans gY)
    have SA2 := Lib.hid (SA1.out.grew gY)
    clear hY gY q0 q1
    by_cases hL : 0 < level
    · go_wp2
      go_ret
      exact ⟨rfl, GY.out⟩
    · obtain rfl := HLOW.out (by omega)
      have hAN : A = N := by rw [← HA.out, HN.out]
      subst hAN
      clear HLOW SA1
      go_wp2
      go_loopw [12] (fun i wr => ∃ k : Nat, k ≤ A ∧ i = .int .i64 k ∧ Grew Y wr) (fun i _ => A - (intOf i).toNat)
      case atStart => exact ⟨0, by omega, rfl, Grew.refl _⟩
      case round =>
        obtain ⟨j, hj, rfl, g⟩ := hrel
        have HG := Lib.hid g
        clear g
        by_cases hjA : j < A
        · have hlt : (j : Int) < (A : Int) := by omega
          obtain ⟨u, hu⟩ : ∃ y, zs[j]? = some y := ⟨_, List.getElem?_eq_getElem (by rw [HN.out]; exact hjA)⟩
          have hs2 := SA2.out
          rw [← HA.out] at hs2
          obtain ⟨b2, o2, rfl, _, hcc2, hb2, hat2⟩ := showsI_some hs2 (by rw [HA.out]; omega)
          have q5 : ∀ δ, (rowLoad 24 (.pointer (some ⟨b2, o2 + j * 32, none⟩))).run Try.prog (wr.grow δ) = .ok (.value (.agg (iv u.l))) (wr.grow δ) := fun δ => load_idm (World.rangeAt.grew (hat2 j u hu) (HG.out.trans ⟨δ, rfl⟩))
          have q6 := QL.out j u hu wr (GY.out.trans HG.out)
          have hul := u.len
          have e5 : ieq u.l u.l = true := decide_eq_true rfl
          clear hs2 hat2 hu hcc2
          go_wp2
          refine wp_region_flow (by kernel_rfl) ?_
          intro δf
          apply wpFlow_quiets [0,1,2,3,4,5,6,7,8,9,10,11,12,13,14,15] (by decide +kernel) (by decide +kernel) (by kernel_rfl) (by intro _ _ _ d _ h; cases d <;> exact h) _
          · intro A hA δ'
            simp only [pickOps_cons, pickOps_nil, pick1_zero, pick1_succ]
            repeat (go_big_quiet_step ((fail)))
            exact wpQuiet_nil hA.out.symm
          refine wpFlow_end (by decide +kernel) (by kernel_rfl) ?_
          intro δf
          go_wp2
          exact ⟨⟨j + 1, by omega, by go_num, HG.out.trans (by repeat (first | with_reducible exact Grew.refl _ | with_reducible apply Grew.alloc | with_reducible apply Grew.grow | with_reducible apply Grew.drew | with_reducible apply Grew.drewN))⟩, by simp only [intOf]; omega⟩
        · obtain rfl : j = A := by omega
          have hge : ¬ ((j : Int) < (j : Int)) := by omega
          go_wp2
          go_ret
          exact ⟨rfl, GY.out.trans HG.out⟩
  · have d1 : decide (1 ≤ (k : Int)) = true := decide_eq_true (by omega)
    have d1' : decide (1 ≤ k) = true := decide_eq_true (by omega)
    have d2 : decide ((k : Int) < 32) = true := decide_eq_true (by omega)
    have hk32 : (k : Int) < 32 := by omega
    have q3 := QM.out k id (by rw [HGG.out k, if_neg (by omega), if_pos hk2]) W1 (Grew.refl _)
    go_wp2
    refine wp_region_flow (by kernel_rfl) ?_
    intro δf
    apply wpFlow_quiets [0,1,2,3,4,5,6,7,8,9,10,11,12,13,14,15,16,17,18,19,20,21,22,23,24,25,26,27] (by decide +kernel) (by decide +kernel) (by kernel_rfl) (by intro _ _ _ d _ h; cases d <;> exact h) _
    · intro A hA δ'
      simp only [pickOps_cons, pickOps_nil, pick1_zero, pick1_succ]
      repeat (go_big_quiet_step ((fail)))
      exact wpQuiet_nil hA.out.symm
    refine wpFlow_end (by decide +kernel) (by kernel_rfl) ?_
    intro δf
    refine exit_abs ?_
    intro Y hY
    have gY : Grew W1 Y := by rw [hY]; exact (by repeat (first | with_reducible exact Grew.refl _ | with_reducible apply Grew.alloc | with_reducible apply Grew.grow | with_reducible apply Grew.drew | with_reducible apply Grew.drewN))
    have GY := Lib.hid (G1.out.trans gY)
    have SA2 := Lib.hid (SA1.out.grew gY)
    clear hY gY q0 q1
    by_cases hL : 0 < level
    · go_wp2
      go_ret
      exact ⟨rfl, GY.out⟩
    · obtain rfl := HLOW.out (by omega)
      have hAN : A = N := by rw [← HA.out, HN.out]
      subst hAN
      clear HLOW SA1
      go_wp2
      go_loopw [12] (fun i wr => ∃ k : Nat, k ≤ A ∧ i = .int .i64 k ∧ Grew Y wr) (fun i _ => A - (intOf i).toNat)
      case atStart => exact ⟨0, by omega, rfl, Grew.refl _⟩
      case round =>
        obtain ⟨j, hj, rfl, g⟩ := hrel
        have HG := Lib.hid g
        clear g
        by_cases hjA : j < A
        · have hlt : (j : Int) < (A : Int) := by omega
          obtain ⟨u, hu⟩ : ∃ y, zs[j]? = some y := ⟨_, List.getElem?_eq_getElem (by rw [HN.out]; exact hjA)⟩
          have hs2 := SA2.out
          rw [← HA.out] at hs2
          obtain ⟨b2, o2, rfl, _, hcc2, hb2, hat2⟩ := showsI_some hs2 (by rw [HA.out]; omega)
          have q5 : ∀ δ, (rowLoad 24 (.pointer (some ⟨b2, o2 + j * 32, none⟩))).run Try.prog (wr.grow δ) = .ok (.value (.agg (iv u.l))) (wr.grow δ) := fun δ => load_idm (World.rangeAt.grew (hat2 j u hu) (HG.out.trans ⟨δ, rfl⟩))
          have q6 := QL.out j u hu wr (GY.out.trans HG.out)
          have hul := u.len
          have e5 : ieq u.l u.l = true := decide_eq_true rfl
          clear hs2 hat2 hu hcc2
          go_wp2
          refine wp_region_flow (by kernel_rfl) ?_
          intro δf
          apply wpFlow_quiets [0,1,2,3,4,5,6,7,8,9,10,11,12,13,14,15] (by decide +kernel) (by decide +kernel) (by kernel_rfl) (by intro _ _ _ d _ h; cases d <;> exact h) _
          · intro A hA δ'
            simp only [pickOps_cons, pickOps_nil, pick1_zero, pick1_succ]
            repeat (go_big_quiet_step ((fail)))
            exact wpQuiet_nil hA.out.symm
          refine wpFlow_end (by decide +kernel) (by kernel_rfl) ?_
          intro δf
          go_wp2
          exact ⟨⟨j + 1, by omega, by go_num, HG.out.trans (by repeat (first | with_reducible exact Grew.refl _ | with_reducible apply Grew.alloc | with_reducible apply Grew.grow | with_reducible apply Grew.drew | with_reducible apply Grew.drewN))⟩, by simp only [intOf]; omega⟩
        · obtain rfl : j = A := by omega
          have hge : ¬ ((j : Int) < (j : Int)) := by omega
          go_wp2
          go_ret
          exact ⟨rfl, GY.out.trans HG.out⟩
end Go.Proofs.Ytinkdkcmmjfhoaa
namespace Go.Proofs.Ytinkdkcmmjfhoaa.linkLow
set_option linter.unusedVariables false
set_option linter.unusedSimpArgs false
open Go.ChangeShapes Go.WideShapes Go.ChangeAt Go.RowKit

set_option maxRecDepth 100000 in
theorem lifted (os : Os) (started : os.Started) (H : Type) (enc : TypeId × Value → H) :
    ReturnsInHanded {} Try.checked os 5 .any (Rows.linkLowSpec.pre6 enc Try.prog Try.f5 Rows.linkLowRow.domain false) (Rows.linkLowSpec.post enc Try.prog Try.f5 false true false false) := by
  refine returnsInHanded_of_change (C := Try.checked) own started (by kernel_rfl) Try.func5
    (ChangeSpec.witness6 (enc := enc) (C := Try.checked) false ⟨#[], #[.slice none 0 0, .agg (Array.replicate 32 (.int .u8 0)), .int .i64 0, .int .i64 0], []⟩ 8 (by kernel_rfl) (by kernel_rfl) (by kernel_rfl) (by kernel_rfl)) ?_
  intro W base args ds gs before hval0 hW _ _
  have hval : ∀ (j : Nat) t v, Try.f5.params[j]? = some t → args[j]? = some v → Value.okWide Try.prog W .any base t v := hval0
  have hW' := hW
  obtain ⟨p, q, hA0, hV, rfl, hfz, hnd⟩ := hW
  have hA : DataW.TrodAll enc Try.prog W 0 (fun _ => true) true Try.f5.params.toList args.toList ds p := hA0
  have hAk := hA
  rw [Try.params5] at hA hval
  obtain ⟨v0, vs0, d0, ds0, p0, q0, hargs0, rfl, rfl, h0, r0⟩ := trodAll_cons hA
  obtain ⟨v1, vs1, d1, ds1, p1, q1, hargs1, rfl, rfl, h1, r1⟩ := trodAll_cons r0
  obtain ⟨v2, vs2, d2, ds2, p2, q2, hargs2, rfl, rfl, h2, r2⟩ := trodAll_cons r1
  obtain ⟨v3, vs3, d3, ds3, p3, q3, hargs3, rfl, rfl, h3, r3⟩ := trodAll_cons r2
  obtain ⟨rfl, rfl, rfl⟩ := trodAll_nil r3
  subst hargs3
  subst hargs2
  subst hargs1
  obtain rfl : args = #[v0, v1, v2, v3] := by cases args; simp_all
  obtain ⟨rfl, rfl⟩ := trodVars_none hV
  obtain ⟨q0', n0', c0', rfl⟩ := okWide_slice Try.underlying22 (hval 0 22 v0 rfl rfl)
  obtain ⟨aq0, ac0, al0, ae0, am0, as0⟩ := open_ids h0 rfl
  rw [ae0]
  obtain ⟨a1, rfl, _, _⟩ := open_id (hval 1 24 v1 rfl rfl) h1
  obtain ⟨a2, rfl, rfl, _, w2⟩ := open_int Try.underlying3 (hval 2 3 v2 rfl rfl) h2
  obtain ⟨a3, rfl, rfl, _, w3⟩ := open_int Try.underlying3 (hval 3 3 v3 rfl rfl) h3
  simp only [List.append_nil] at hW'
  refine (linkLow_walk aq0 ac0 al0 am0 a1 a2 a3 W as0).mono fun e W' ⟨he, hg⟩ => ?_
  subst he
  rw [← ae0]
  exact ⟨_, rfl, post_of_stays hW' rfl (by simpa using hAk) (types_ok _ (by rw [Try.params5]; kernel_rfl)) rfl rfl (fun _ _ _ => (trodAll_cons_mk (shut_bool Try.underlying4 _) trodAll_mk0))
    hg (ok_one (by kernel_rfl) rfl (okWide_bool_mk Try.underlying4 _))⟩

theorem proved : Rows.LinkLowSaid :=
  OpenClaim.holds_of_wide 5 Try.f5 rfl rfl rfl rfl rfl rfl rfl ⟨rfl, rfl, rfl, rfl, rfl⟩ rfl rfl rfl rfl rfl (by kernel_rfl) Try.func5 (by kernel_rfl)
    (of_decide_eq_true (by kernel_rfl)) (by unfold Func.isWrapper; first | (rw [if_pos (by decide +kernel)]; kernel_rfl) | (rw [if_neg (by decide +kernel)]; exact ⟨rfl, rfl⟩))
    (fun os started H enc _ => lifted os started H enc)
end Go.Proofs.Ytinkdkcmmjfhoaa.linkLow
