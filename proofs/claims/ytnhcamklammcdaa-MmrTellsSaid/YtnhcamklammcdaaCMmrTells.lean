/- 'stepladderlaw06.MmrTells' answers true for every slice of totals, slice of totals, total, total, int, slice of totals, without panicking, and what it was handed reads as before. Conditions: none. -/
import Derived.Test.YtnhcamklammcdaaRows
import Derived.Test.YtnhcamklammcdaaM7
/- The walk of MmrTells. -/
namespace Go.Proofs.Ytnhcamklammcdaa
set_option linter.unusedVariables false
set_option linter.unusedSimpArgs false
open Go.RowKit
set_option maxRecDepth 100000
set_option maxHeartbeats 6400000 in
theorem mmrTells_walk (q : Option Addr) (c : Nat) (l : List Tot) (hm : l.length ≤ maxLen) (q1 : Option Addr) (c1 : Nat) (l1 : List Tot) (hm1 : l1.length ≤ maxLen) (leaf root : Tot) (i : Int) (q2 : Option Addr) (c2 : Nat) (l2 : List Tot) (hm2 : l2.length ≤ maxLen) (w : World)
    (hs : ShowsT w (.slice q l.length c) l) (hs1 : ShowsT w (.slice q1 l1.length c1) l1) (hs2 : ShowsT w (.slice q2 l2.length c2) l2) :
    Calls Try.prog 3 #[.slice q l.length c, .slice q1 l1.length c1, leaf.v, root.v, .int .i64 i, .slice q2 l2.length c2] w fun e w' => e = .returned (.bool true) ∧ Grew w w' := by
  have HS := Lib.hid hs
  have HS1 := Lib.hid hs1
  have HS2 := Lib.hid hs2
  have hrl := root.h.len
  have hll := leaf.h.len
  clear hs hm hs1 hm1 hs2 hm2
  obtain ⟨N, hN⟩ : ∃ N, l.length = N := ⟨_, rfl⟩
  obtain ⟨N1, hN1⟩ : ∃ N, l1.length = N := ⟨_, rfl⟩
  obtain ⟨N2, hN2⟩ : ∃ N, l2.length = N := ⟨_, rfl⟩
  rw [hN] at HS ⊢
  rw [hN1] at HS1 ⊢
  rw [hN2] at HS2 ⊢
  unfold Tot.v
  by_cases h4 : ¬ (¬ 70 < (N : Int) ∧ ¬ 70 < (N1 : Int) ∧ ¬ 12 < (N2 : Int))
  · have h5 : 70 < (N : Int) ∨ (¬ 70 < (N : Int) ∧ 70 < (N1 : Int)) ∨ (¬ 70 < (N : Int) ∧ ¬ 70 < (N1 : Int) ∧ 12 < (N2 : Int)) := by omega
    clear h4 hN hN1 hN2
    rcases h5 with h1 | ⟨h1, h2⟩ | ⟨h1, h2, h3⟩
    all_goals
      go_enter Try.func3, Try.ntmps3
      go_wp2_with (go_at_call 9; refine (awake_w _).mono ?_; rintro e w' ⟨rfl, δ, rfl⟩)
      go_ret
      exact ⟨rfl, (by repeat (first | with_reducible exact Grew.refl _ | with_reducible apply Grew.alloc | with_reducible apply Grew.grow | with_reducible apply Grew.drew | with_reducible apply Grew.drewN))⟩
  obtain ⟨h1, h2, h3⟩ : ¬ 70 < (N : Int) ∧ ¬ 70 < (N1 : Int) ∧ ¬ 12 < (N2 : Int) := by omega
  clear h4
  have CA := Lib.hid (fun W (g : Grew w W) => append_w l leaf (.slice q N c) W (HS.out.grew g) (by omega))
  have CB := Lib.hid (fun W (g : Grew w W) => rappend_w l leaf (.slice q N c) W (HS.out.grew g) (by omega))
  have hal := appT_len l leaf
  obtain ⟨ap, hap⟩ : ∃ ap, appT l leaf = ap := ⟨_, rfl⟩
  rw [hap] at CA CB hal
  have CP := Lib.hid (fun W (g : Grew w W) => path_w l i (.slice q N c) W (HS.out.grew g))
  have CQ := Lib.hid (fun W (g : Grew w W) => rPathT_w l i (.slice q N c) W (HS.out.grew g))
  have hpl : (tpathOf l i).length ≤ 1000 := by
    unfold tpathOf
    split
    · rename_i h
      have h := of_decide_eq_true h
      have := side_len l.length i.toNat (by omega) (by omega)
      rw [pathT_len l _ (by omega)]
      omega
    · simp
  obtain ⟨ok, hok⟩ : ∃ ok, tpathOk l i = ok := ⟨_, rfl⟩
  obtain ⟨ps, hps⟩ : ∃ ps, tpathOf l i = ps := ⟨_, rfl⟩
  rw [hps] at hpl
  rw [hok, hps] at CP CQ
  have CK := Lib.hid (fun W (g : Grew w W) => check_w root i leaf l2 (.slice q2 N2 c2) W (HS2.out.grew g) (by omega))
  have CL := Lib.hid (fun W (g : Grew w W) => rcheckT_w root i leaf l2 (.slice q2 N2 c2) W (HS2.out.grew g) (by omega))
  obtain ⟨R, hR⟩ : ∃ R, chkO root i leaf l2 = R := ⟨_, rfl⟩
  rw [hR] at CK CL
  obtain ⟨x, hx⟩ : ∃ x : Wd, R.getD Wd.zero = x := ⟨_, rfl⟩
  obtain ⟨y, hy⟩ : ∃ y, R.isSome = y := ⟨_, rfl⟩
  have hv : chkV R = .tuple #[.agg (wv x.n), .bool y] := by rw [← hx, ← hy]; rfl
  rw [hv] at CK CL
  have CS := Lib.hid (fun W (g : Grew w W) => rsame_w l l1 (.slice q N c) (.slice q1 N1 c1) W (HS.out.grew g) (HS1.out.grew g) (by omega) (by omega))
  have CT := Lib.hid (fun W (g : Grew w W) => same_w l l1 (.slice q N c) (.slice q1 N1 c1) W (HS.out.grew g) (HS1.out.grew g) (by omega) (by omega))
  obtain ⟨sm, hsm⟩ : ∃ sm, sameT l l1 = sm := ⟨_, rfl⟩
  rw [hsm] at CS CT
  have c6 := fun W (g : Grew w W) => root_w l (.slice q N c) W (by omega) (HS.out.grew g)
  have c7 := fun W (g : Grew w W) => rpeak_w l (.slice q N c) W (by omega) (HS.out.grew g)
  obtain ⟨P, hP⟩ : ∃ P, peakL l = P := ⟨_, rfl⟩
  rw [hP] at c6 c7
  have c8 := fun W => join_w leaf root W
  have c9 := fun W => rjoin_w leaf root W
  obtain ⟨J, hJ⟩ : ∃ P, Tot.join leaf root = P := ⟨_, rfl⟩
  rw [hJ] at c8 c9
  have c10 := fun W => leaf_w leaf.h leaf.w W
  have c11 := fun W => rleaf_w leaf.h leaf.w W
  obtain ⟨F, hF⟩ : ∃ P, Tot.leaf leaf.h leaf.w = P := ⟨_, rfl⟩
  rw [hF] at c10 c11
  unfold Tot.v at c6 c7 c8 c9 c10 c11
  have hPl := P.h.len
  have hJl := J.h.len
  have hFl := F.h.len
  have C6 := Lib.hid c6
  have C7 := Lib.hid c7
  have C8 := Lib.hid c8
  have C9 := Lib.hid c9
  have C10 := Lib.hid c10
  have C11 := Lib.hid c11
  have e1 : Tot.eq P P = true := (Tot.eq_iff _ _).2 rfl
  have e2 : Tot.eq J J = true := (Tot.eq_iff _ _).2 rfl
  have e3 : Tot.eq F F = true := (Tot.eq_iff _ _).2 rfl
  have e4 : (ok == ok) = true := by cases ok <;> rfl
  have e5 : (y == y) = true := by cases y <;> rfl
  have e6 : (sm == sm) = true := by cases sm <;> rfl
  have e7 : weq x.n x.n = true := Wd.eq_of rfl
  have hxl := x.lt
  replace hal : ap.length ≤ 1000 := by omega
  clear hN hN1 hN2 hap hok hps hR hx hy hv hsm hP hJ hF c6 c7 c8 c9 c10 c11 HS HS1 HS2
  go_enter Try.func3, Try.ntmps3
  go_wp2_with (go_at_call 9; refine (awake_w _).mono ?_; rintro e w' ⟨rfl, δ, rfl⟩)
  refine code_abs ?_
  intro X hX
  have gX : Grew w X := by rw [hX]; exact (by repeat (first | with_reducible exact Grew.refl _ | with_reducible apply Grew.alloc | with_reducible apply Grew.grow | with_reducible apply Grew.drew | with_reducible apply Grew.drewN))
  have r0 : X.rowAt w.heap.size = ta leaf.h.l leaf.w.n leaf.n := by rw [hX]; simp [go_sem]
  have z0 : w.heap.size < X.heap.size := by rw [hX]; simp; omega
  have r1 : X.rowAt (w.heap.size + 1) = ta root.h.l root.w.n root.n := by rw [hX]; simp [go_sem]
  have z1 : w.heap.size + 1 < X.heap.size := by rw [hX]; simp; omega
  have GX := Lib.hid gX
  clear hX gX
  refine wp_region_flow (by kernel_rfl) ?_
  intro δf
  apply wpFlow_quiets [0,1,3,4] (by decide +kernel) (by decide +kernel) (by kernel_rfl) (by intro _ _ _ d _ h; cases d <;> exact h) _
  · intro A hA δ'
    simp only [pickOps_cons, pickOps_nil, pick1_zero, pick1_succ]
    repeat (go_big_quiet_step ((fail)))
    exact wpQuiet_nil hA.out.symm
  refine wpFlow_one 2 (by decide +kernel) (by kernel_rfl) (by kernel_rfl) ?_
  refine wpFlowS_intro ?_
  simp only [pickOps_cons, pickOps_nil, pick1_zero, pick1_succ]
  intro δf
  go_wp2_with (go_at_call 11; refine (CA.out _ (GX.out.trans (by repeat (first | with_reducible exact Grew.refl _ | with_reducible apply Grew.alloc | with_reducible apply Grew.grow | with_reducible apply Grew.drew | with_reducible apply Grew.drewN)))).mono ?_; rintro e w2 ⟨v46, rfl, ho, hg⟩)
  refine ⟨(by first | assumption | (simp only [grow_grow, Array.append_assoc]; assumption) | exact Grew.refl _ | (simp only [grow_grow, Array.append_assoc]; exact (by repeat (first | with_reducible exact Grew.refl _ | with_reducible apply Grew.alloc | with_reducible apply Grew.grow | with_reducible apply Grew.drew | with_reducible apply Grew.drewN))) | exact (by repeat (first | with_reducible exact Grew.refl _ | with_reducible apply Grew.alloc | with_reducible apply Grew.grow | with_reducible apply Grew.drew | with_reducible apply Grew.drewN))), ?_⟩
  have g2 : Grew X w2 := (show Grew X _ from (by repeat (first | with_reducible exact Grew.refl _ | with_reducible apply Grew.alloc | with_reducible apply Grew.grow | with_reducible apply Grew.drew | with_reducible apply Grew.drewN))).trans hg
  have G2 := Lib.hid g2
  have S46 := Lib.hid (OwnE.shows Tot.cs_len ho)
  clear hg ho g2 CA
  refine wpFlow_one 5 (by decide +kernel) (by kernel_rfl) (by kernel_rfl) ?_
  refine wpFlowS_intro ?_
  simp only [pickOps_cons, pickOps_nil, pick1_zero, pick1_succ]
  intro δf
  go_wp2_with (go_at_call 12; refine (CB.out _ (GX.out.trans (G2.out.trans (by repeat (first | with_reducible exact Grew.refl _ | with_reducible apply Grew.alloc | with_reducible apply Grew.grow | with_reducible apply Grew.drew | with_reducible apply Grew.drewN))))).mono ?_; rintro e w3 ⟨v49, rfl, ho, hg3⟩)
  refine ⟨(by first | assumption | (simp only [grow_grow, Array.append_assoc]; assumption) | exact Grew.refl _ | (simp only [grow_grow, Array.append_assoc]; exact (by repeat (first | with_reducible exact Grew.refl _ | with_reducible apply Grew.alloc | with_reducible apply Grew.grow | with_reducible apply Grew.drew | with_reducible apply Grew.drewN))) | exact (by repeat (first | with_reducible exact Grew.refl _ | with_reducible apply Grew.alloc | with_reducible apply Grew.grow | with_reducible apply Grew.drew | with_reducible apply Grew.drewN))), ?_⟩
  have g3 : Grew w2 w3 := (show Grew w2 _ from (by repeat (first | with_reducible exact Grew.refl _ | with_reducible apply Grew.alloc | with_reducible apply Grew.grow | with_reducible apply Grew.drew | with_reducible apply Grew.drewN))).trans hg3
  have CI := Lib.hid (fun W (g : Grew w3 W) => rsame_w ap ap v46 v49 W (S46.out.grew (g3.trans g)) ((OwnE.shows Tot.cs_len ho).grew g) (by omega) (by omega))
  rw [(sameT_iff ap ap).2 rfl] at CI
  have G3 := Lib.hid (GX.out.trans (G2.out.trans g3))
  have s0 : w3.rowAt w.heap.size = ta leaf.h.l leaf.w.n leaf.n := by rw [Grew.rowAt (G2.out.trans g3) _ z0]; exact r0
  have s1 : w3.rowAt (w.heap.size + 1) = ta root.h.l root.w.n root.n := by rw [Grew.rowAt (G2.out.trans g3) _ z1]; exact r1
  have y1 : w.heap.size + 1 < w3.heap.size := Nat.lt_of_lt_of_le z1 (G2.out.trans g3).size
  have y0 : w.heap.size < w3.heap.size := Nat.lt_of_succ_lt y1
  clear hg3 ho g3 CB r0 r1 z0 z1 G2 GX S46
  apply wpFlow_quiets [6] (by decide +kernel) (by decide +kernel) (by kernel_rfl) (by intro _ _ _ d _ h; cases d <;> exact h) _
  · intro A hA δ'
    simp only [pickOps_cons, pickOps_nil, pick1_zero, pick1_succ]
    repeat (go_big_quiet_step ((go_at_call 10; (with_reducible first | exact Calls.pure_of_g (CI.out _ (by repeat (first | with_reducible exact Grew.refl _ | with_reducible apply Grew.alloc | with_reducible apply Grew.grow | with_reducible apply Grew.drew | with_reducible apply Grew.drewN))) | exact Calls.pure_of_g3 (CI.out _ (by repeat (first | with_reducible exact Grew.refl _ | with_reducible apply Grew.alloc | with_reducible apply Grew.grow | with_reducible apply Grew.drew | with_reducible apply Grew.drewN)))))))
    exact wpQuiet_nil hA.out.symm
  apply wpFlow_quiets [7] (by decide +kernel) (by decide +kernel) (by kernel_rfl) (by intro _ _ _ d _ h; cases d <;> exact h) _
  · intro A hA δ'
    simp only [pickOps_cons, pickOps_nil, pick1_zero, pick1_succ]
    repeat (go_big_quiet_step ((fail)))
    exact wpQuiet_nil hA.out.symm
  refine wpFlow_end (by decide +kernel) (by kernel_rfl) ?_
  intro δf
  clear CI
  go_wp2_with (go_at_call 13; refine stop_of ?_)
  unfold Stop
  refine Calls_abs ?_
  intro Y hY
  have gY : Grew w3 Y := by rw [hY]; exact (by repeat (first | with_reducible exact Grew.refl _ | with_reducible apply Grew.alloc | with_reducible apply Grew.grow | with_reducible apply Grew.drew | with_reducible apply Grew.drewN))
  refine (CP.out _ (G3.out.trans gY)).mono ?_
  rintro e Y1 ⟨v15, rfl, ho, hg⟩
  have gg := gY.trans hg
  have S15 := Lib.hid (OwnE.shows Tot.cs_len ho)
  replace s0 := (Grew.rowAt gg _ y0).trans s0
  replace s1 := (Grew.rowAt gg _ y1).trans s1
  replace y1 := Nat.lt_of_lt_of_le y1 gg.size
  replace y0 : w.heap.size < Y1.heap.size := Nat.lt_of_succ_lt y1
  replace G3 := Lib.hid (G3.out.trans gg)
  clear hY gY ho hg gg CP
  go_wp2_with (go_at_call 14; refine stop_of ?_)
  unfold Stop
  refine (CQ.out _ G3.out).mono ?_
  rintro e Y2 ⟨v17, rfl, ho, hg⟩
  have CI := Lib.hid (fun W (g : Grew Y2 W) => rsame_w ps ps v15 v17 W (S15.out.grew (hg.trans g)) ((OwnE.shows Tot.cs_len ho).grew g) (by omega) (by omega))
  rw [(sameT_iff ps ps).2 rfl] at CI
  replace s0 := (Grew.rowAt hg _ y0).trans s0
  replace s1 := (Grew.rowAt hg _ y1).trans s1
  replace y1 := Nat.lt_of_lt_of_le y1 hg.size
  replace y0 : w.heap.size < Y2.heap.size := Nat.lt_of_succ_lt y1
  replace G3 := Lib.hid (G3.out.trans hg)
  clear ho hg CQ S15
  go_wp2_with (go_at_call 10; refine stop_of ?_)
  unfold Stop
  refine (CI.out _ (Grew.refl _)).mono ?_
  rintro e Y3 ⟨rfl, hg⟩
  replace s0 := (Grew.rowAt hg _ y0).trans s0
  replace s1 := (Grew.rowAt hg _ y1).trans s1
  replace y1 := Nat.lt_of_lt_of_le y1 hg.size
  replace y0 : w.heap.size < Y3.heap.size := Nat.lt_of_succ_lt y1
  replace G3 := Lib.hid (G3.out.trans hg)
  clear hg CI
  go_wp2_with (go_at_call 15; refine stop_of ?_)
  unfold Stop
  refine (CK.out _ G3.out).mono ?_
  rintro e Y4 ⟨rfl, hg⟩
  replace s0 := (Grew.rowAt hg _ y0).trans s0
  replace s1 := (Grew.rowAt hg _ y1).trans s1
  replace y1 := Nat.lt_of_lt_of_le y1 hg.size
  replace y0 : w.heap.size < Y4.heap.size := Nat.lt_of_succ_lt y1
  replace G3 := Lib.hid (G3.out.trans hg)
  clear hg CK
  go_wp2_with (go_at_call 16; refine stop_of ?_)
  unfold Stop
  refine (CL.out _ (G3.out.trans (by repeat (first | with_reducible exact Grew.refl _ | with_reducible apply Grew.alloc | with_reducible apply Grew.grow | with_reducible apply Grew.drew | with_reducible apply Grew.drewN)))).mono ?_
  rintro e Y5 ⟨rfl, hg⟩
  have gg : Grew Y4 Y5 := (show Grew Y4 _ from (by repeat (first | with_reducible exact Grew.refl _ | with_reducible apply Grew.alloc | with_reducible apply Grew.grow | with_reducible apply Grew.drew | with_reducible apply Grew.drewN))).trans hg
  have r20 : Y5.rowAt Y4.heap.size = wv x.n := by rw [Grew.rowAt hg _ (by simp)]; simp [go_sem]
  have z20 : Y4.heap.size < Y5.heap.size := by have := hg.size; simp at this; omega
  replace s0 := (Grew.rowAt gg _ y0).trans s0
  replace s1 := (Grew.rowAt gg _ y1).trans s1
  replace y1 := Nat.lt_of_lt_of_le y1 gg.size
  replace y0 : w.heap.size < Y5.heap.size := Nat.lt_of_succ_lt y1
  replace G3 := Lib.hid (G3.out.trans gg)
  clear hg gg CL
  go_wp2_with (go_at_call 10; refine stop_of ?_)
  unfold Stop
  refine (CS.out _ (G3.out.trans (by repeat (first | with_reducible exact Grew.refl _ | with_reducible apply Grew.alloc | with_reducible apply Grew.grow | with_reducible apply Grew.drew | with_reducible apply Grew.drewN)))).mono ?_
  rintro e Y6 ⟨rfl, hg⟩
  have gg : Grew Y5 Y6 := (show Grew Y5 _ from (by repeat (first | with_reducible exact Grew.refl _ | with_reducible apply Grew.alloc | with_reducible apply Grew.grow | with_reducible apply Grew.drew | with_reducible apply Grew.drewN))).trans hg
  have r22 : Y6.rowAt Y5.heap.size = wv x.n := by rw [Grew.rowAt hg _ (by simp)]; simp [go_sem]
  have z22 : Y5.heap.size < Y6.heap.size := by have := hg.size; simp at this; omega
  replace r20 := (Grew.rowAt gg _ z20).trans r20
  replace z20 := Nat.lt_of_lt_of_le z20 gg.size
  replace s0 := (Grew.rowAt gg _ y0).trans s0
  replace s1 := (Grew.rowAt gg _ y1).trans s1
  replace y1 := Nat.lt_of_lt_of_le y1 gg.size
  replace y0 : w.heap.size < Y6.heap.size := Nat.lt_of_succ_lt y1
  replace G3 := Lib.hid (G3.out.trans gg)
  clear hg gg CS
  go_wp2_with (go_at_call 17; refine stop_of ?_)
  unfold Stop
  refine (CT.out _ G3.out).mono ?_
  rintro e Z ⟨rfl, hg⟩
  replace s0 := (Grew.rowAt hg _ y0).trans s0
  replace s1 := (Grew.rowAt hg _ y1).trans s1
  replace y1 := Nat.lt_of_lt_of_le y1 hg.size
  replace y0 : w.heap.size < Z.heap.size := Nat.lt_of_succ_lt y1
  replace G3 := Lib.hid (G3.out.trans hg)
  clear hg CT r20 r22 z20 z22
  go_wp2
  first | refine wp_region_pure_lit_g (by kernel_rfl) (by kernel_rfl) ?_ | refine wp_region_pure_lit (by kernel_rfl) (by kernel_rfl) ?_
  repeat (go_big_quiet_step ((first | (go_at_call 18; exact Calls.pure_of (C6.out _ (G3.out.trans (by repeat (first | with_reducible exact Grew.refl _ | with_reducible apply Grew.alloc | with_reducible apply Grew.grow | with_reducible apply Grew.drew | with_reducible apply Grew.drewN))))) | (go_at_call 19; exact Calls.pure_of (C7.out _ (G3.out.trans (by repeat (first | with_reducible exact Grew.refl _ | with_reducible apply Grew.alloc | with_reducible apply Grew.grow | with_reducible apply Grew.drew | with_reducible apply Grew.drewN))))) | (go_at_call 20; exact Calls.pure_of (C8.out _)) | (go_at_call 21; exact Calls.pure_of (C9.out _)) | (go_at_call 22; exact Calls.pure_of (C10.out _)) | (go_at_call 23; exact Calls.pure_of (C11.out _)))))
  refine wpQuiet_nil ?_
  intro _ hw'
  obtain ⟨δ1, hw''⟩ := hw'
  subst hw''
  go_wp2
  go_ret
  exact ⟨rfl, G3.out.trans (by repeat (first | with_reducible exact Grew.refl _ | with_reducible apply Grew.alloc | with_reducible apply Grew.grow | with_reducible apply Grew.drew | with_reducible apply Grew.drewN))⟩
end Go.Proofs.Ytnhcamklammcdaa
namespace Go.Proofs.Ytnhcamklammcdaa.mmrTells
set_option linter.unusedVariables false
set_option linter.unusedSimpArgs false
open Go.ChangeShapes Go.WideShapes Go.ChangeAt Go.RowKit

set_option maxRecDepth 100000 in
theorem lifted (os : Os) (started : os.Started) (H : Type) (enc : TypeId × Value → H) :
    ReturnsInHanded {} Try.checked os 3 .any (Rows.mmrTellsSpec.pre6 enc Try.prog Try.f3 Rows.mmrTellsRow.domain false) (Rows.mmrTellsSpec.post enc Try.prog Try.f3 false true false false) := by
  refine returnsInHanded_of_change (C := Try.checked) own started (by kernel_rfl) Try.func3
    (ChangeSpec.witness6 (enc := enc) (C := Try.checked) false ⟨#[], #[.slice none 0 0, .slice none 0 0, .agg (ta id0 0 0), .agg (ta id0 0 0), .int .i64 0, .slice none 0 0], []⟩ 8 (by kernel_rfl) (by kernel_rfl) (by kernel_rfl) (by kernel_rfl)) ?_
  intro W base args ds gs before hval0 hW _ _
  have hval : ∀ (j : Nat) t v, Try.f3.params[j]? = some t → args[j]? = some v → Value.okWide Try.prog W .any base t v := hval0
  have hW' := hW
  obtain ⟨p, q, hA0, hV, rfl, hfz, hnd⟩ := hW
  have hA : DataW.TrodAll enc Try.prog W 0 (fun _ => true) true Try.f3.params.toList args.toList ds p := hA0
  have hAk := hA
  rw [Try.params3] at hA hval
  obtain ⟨v0, vs0, d0, ds0, p0, q0, hargs0, rfl, rfl, h0, r0⟩ := trodAll_cons hA
  obtain ⟨v1, vs1, d1, ds1, p1, q1, hargs1, rfl, rfl, h1, r1⟩ := trodAll_cons r0
  obtain ⟨v2, vs2, d2, ds2, p2, q2, hargs2, rfl, rfl, h2, r2⟩ := trodAll_cons r1
  obtain ⟨v3, vs3, d3, ds3, p3, q3, hargs3, rfl, rfl, h3, r3⟩ := trodAll_cons r2
  obtain ⟨v4, vs4, d4, ds4, p4, q4, hargs4, rfl, rfl, h4, r4⟩ := trodAll_cons r3
  obtain ⟨v5, vs5, d5, ds5, p5, q5, hargs5, rfl, rfl, h5, r5⟩ := trodAll_cons r4
  obtain ⟨rfl, rfl, rfl⟩ := trodAll_nil r5
  subst hargs5
  subst hargs4
  subst hargs3
  subst hargs2
  subst hargs1
  obtain rfl : args = #[v0, v1, v2, v3, v4, v5] := by cases args; simp_all
  obtain ⟨rfl, rfl⟩ := trodVars_none hV
  obtain ⟨q0', n0', c0', rfl⟩ := okWide_slice Try.underlying22 (hval 0 22 v0 rfl rfl)
  obtain ⟨aq0, ac0, al0, ae0, am0, as0⟩ := open_tots h0 rfl
  rw [ae0]
  obtain ⟨q1', n1', c1', rfl⟩ := okWide_slice Try.underlying22 (hval 1 22 v1 rfl rfl)
  obtain ⟨aq1, ac1, al1, ae1, am1, as1⟩ := open_tots h1 rfl
  rw [ae1]
  obtain ⟨a2, rfl⟩ := open_total (hval 2 29 v2 rfl rfl) h2
  obtain ⟨a3, rfl⟩ := open_total (hval 3 29 v3 rfl rfl) h3
  obtain ⟨a4, rfl, rfl, _, w4⟩ := open_int Try.underlying3 (hval 4 3 v4 rfl rfl) h4
  obtain ⟨q5', n5', c5', rfl⟩ := okWide_slice Try.underlying22 (hval 5 22 v5 rfl rfl)
  obtain ⟨aq5, ac5, al5, ae5, am5, as5⟩ := open_tots h5 rfl
  rw [ae5]
  simp only [List.append_nil] at hW'
  refine (mmrTells_walk aq0 ac0 al0 am0 aq1 ac1 al1 am1 a2 a3 a4 aq5 ac5 al5 am5 W as0 as1 as5).mono fun e W' ⟨he, hg⟩ => ?_
  subst he
  rw [← ae0]
  rw [← ae1]
  rw [← ae5]
  exact ⟨_, rfl, post_of_stays hW' rfl (by simpa using hAk) (types_ok _ (by rw [Try.params3]; kernel_rfl)) rfl rfl (fun _ _ _ => (trodAll_cons_mk (shut_bool Try.underlying4 _) trodAll_mk0))
    hg (ok_one (by kernel_rfl) rfl (okWide_bool_mk Try.underlying4 _))⟩

theorem proved : Rows.MmrTellsSaid :=
  OpenClaim.holds_of_wide 3 Try.f3 rfl rfl rfl rfl rfl rfl rfl ⟨rfl, rfl, rfl, rfl, rfl⟩ rfl rfl rfl rfl rfl (by kernel_rfl) Try.func3 (by kernel_rfl)
    (of_decide_eq_true (by kernel_rfl)) (by unfold Func.isWrapper; first | (rw [if_pos (by decide +kernel)]; kernel_rfl) | (rw [if_neg (by decide +kernel)]; exact ⟨rfl, rfl⟩))
    (fun os started H enc _ => lifted os started H enc)
end Go.Proofs.Ytnhcamklammcdaa.mmrTells
