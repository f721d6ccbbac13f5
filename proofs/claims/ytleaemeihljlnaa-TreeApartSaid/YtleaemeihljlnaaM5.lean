/- What the statements of this chapter rest on, part 5. Conditions: none. -/
import Derived.Deep.Slices
import Derived.Test.YtleaemeihljlnaaM4
/- The document's climb. -/
namespace Go.Proofs.Ytleaemeihljlnaa
set_option linter.unusedVariables false
set_option linter.unusedSimpArgs false
open Go.RowKit
def climbL (ss : List Nat) (x : Idb) (ys : List Idb) (k : Nat) : List Idb := (List.range (k + 1)).map (topk ss x ys)
theorem climbL_len (ss : List Nat) (x : Idb) (ys : List Idb) (k : Nat) : (climbL ss x ys k).length = k + 1 := by simp [climbL]
theorem climbL_get (ss : List Nat) (x : Idb) (ys : List Idb) (k j : Nat) (h : j ≤ k) : (climbL ss x ys k)[j]? = some (topk ss x ys j) := by
  unfold climbL
  rw [List.getElem?_map, List.getElem?_range (by omega)]
  rfl
theorem climbL_succ (ss : List Nat) (x : Idb) (ys : List Idb) (k : Nat) : climbL ss x ys (k + 1) = climbL ss x ys k ++ [topk ss x ys (k + 1)] := by
  unfold climbL
  rw [List.range_succ, List.map_append]
  rfl
theorem code_abs {P : Program} {c : Code} {Q : Exit → Act → World → Prop} {a : Act} {X : World} (h : ∀ Y, Y = X → Code.wp P c Q a Y) : Code.wp P c Q a X := h X rfl
set_option maxRecDepth 100000 in
set_option maxHeartbeats 6400000 in
theorem climb_w (ss : List Nat) (x : Idb) (ys : List Idb) (v1 v2 : Value) (w : World) (hs : ∀ s ∈ ss, s = 0 ∨ s = 1) (hl : ss.length = ys.length) (hn : ss.length ≤ 100000) (h1 : Shows w v1 (bvs ss)) (h2 : ShowsI w v2 ys) :
    Calls Try.prog 34 #[v1, .agg (iv x.l), v2] w fun e w' => ∃ v, e = .returned v ∧ OwnE 32 Idb.cs w' w.heap.size 29 v (climbL ss x ys ss.length) ∧ Grew w w' := by
  obtain ⟨p1, c1, rfl⟩ := shows_form h1
  obtain ⟨p2, c2, rfl⟩ := showsI_form h2
  obtain ⟨ii, hif, hz, hsz, hby⟩ := info_id
  obtain ⟨N, hN⟩ : ∃ N, ss.length = N := ⟨_, rfl⟩
  have H1 := Lib.hid h1
  have H2 := Lib.hid h2
  clear h1 h2
  rw [bvs_len] at H1 ⊢
  rw [← hl] at H2 ⊢
  rw [hN] at H1 H2 hn ⊢
  have hx := x.len
  go_enter Try.func34, Try.ntmps34
  go_wp2
  obtain ⟨A, hA⟩ : ∃ A, (w.alloc (Obj.cells (iv x.l) 29)).alloc (Obj.cells (iv x.l) 29) = A := ⟨_, rfl⟩
  have gA : Grew w A := by rw [← hA]; exact (by repeat (first | with_reducible exact Grew.refl _ | with_reducible apply Grew.alloc | with_reducible apply Grew.grow | with_reducible apply Grew.drew | with_reducible apply Grew.drewN))
  have o0 : OwnE 32 Idb.cs A w.heap.size 29 (.slice (some ⟨w.heap.size + 1, 0, none⟩) 1 1) (climbL ss x ys 0) := by
    have h3 := OwnE.made Idb.cs_len (w.alloc (Obj.cells (iv x.l) 29)) w.heap.size 29 [x] (by simp) (by simp [maxLen])
    have e1 : ([x].flatMap Idb.cs).toArray = iv x.l := by rw [List.flatMap_cons, List.flatMap_nil, List.append_nil]; rfl
    rw [e1, hA, World.size_alloc] at h3
    exact h3
  rw [hA]
  have O0 := Lib.hid o0
  have GA := Lib.hid gA
  clear o0 gA hA
  go_loopw [8, 7] (fun i v wr => ∃ k : Nat, k ≤ N ∧ i = .int .i64 k ∧ OwnE 32 Idb.cs wr w.heap.size 29 v (climbL ss x ys k) ∧ Grew w wr) (fun i _ _ => N - (intOf i).toNat)
  case atStart => exact ⟨0, by omega, rfl, O0.out, GA.out⟩
  case round =>
    obtain ⟨k, hk, rfl, ho, hg⟩ := hrel
    have hlen := climbL_len ss x ys k
    obtain ⟨g, cap, hv, hgb, hgs, hcap⟩ := (ho.form).resolve_left (by rintro ⟨_, h⟩; rw [h] at hlen; simp at hlen)
    rw [hlen] at hv hcap
    subst hv
    have HO := Lib.hid ho
    have GW := Lib.hid hg
    have hzr := OwnE.range Idb.cs_len ho k _ (climbL_get ss x ys k k (Nat.le_refl _))
    have zB : w.heap.size ≤ wr.heap.size := hg.size
    clear ho hg
    obtain ⟨z, hzz⟩ : ∃ z, topk ss x ys k = z := ⟨_, rfl⟩
    have hzl := z.len
    rw [hzz] at hzr
    by_cases hkN : k < N
    · have hlt : (k : Int) < (N : Int) := by omega
      obtain ⟨s, hsk⟩ : ∃ s, ss[k]? = some s := ⟨_, List.getElem?_eq_getElem (by omega)⟩
      obtain ⟨y, hyk⟩ : ∃ y, ys[k]? = some y := ⟨_, List.getElem?_eq_getElem (by omega)⟩
      have hst0 := (stepk ss x ys k s y hl hsk hyk).2
      have hs01 := hs s (List.mem_of_getElem? hsk)
      obtain ⟨b1, o1, hp1, hb1, hc1⟩ : ∃ b o, p1 = some ⟨b, o, none⟩ ∧ b < w.heap.size ∧ w.cell? ⟨b, o + k, none⟩ = some (.bool (s == 0)) := by
        rcases H1.out with ⟨b, o, c, he, hb, h⟩ | ⟨p', c', he, h0⟩
        · simp only [Value.slice.injEq] at he
          exact ⟨b, o, he.1, hb, h k _ (by simp [bvs, hsk])⟩
        · have := bvs_len ss; rw [h0] at this; simp at this; omega
      obtain ⟨b2, o2, hp2, e1, e2, hb2, hr2⟩ := showsI_some H2.out (by rw [← hl]; omega)
      have hr := hr2 k y hyk
      subst hp1 hp2
      have hld0 := load_idm hzr
      have c1' : ∀ C t, (wr.alloc (.cells C t)).cell? ⟨b1, o1 + k, none⟩ = some (.bool (s == 0)) := fun C t => Grew.cell (GW.out.trans (by repeat (first | with_reducible exact Grew.refl _ | with_reducible apply Grew.alloc | with_reducible apply Grew.grow | with_reducible apply Grew.drew | with_reducible apply Grew.drewN))) hc1
      have qld : ∀ δ, (rowLoad 29 (.pointer (some ⟨b2, o2 + k * 32, none⟩))).run Try.prog ((wr.alloc (.cells (iv z.l) 29)).grow δ) = .ok (.value (.agg (iv y.l))) ((wr.alloc (.cells (iv z.l) 29)).grow δ) := fun δ => load_idm (World.rangeAt.grew hr (GW.out.trans (by repeat (first | with_reducible exact Grew.refl _ | with_reducible apply Grew.alloc | with_reducible apply Grew.grow | with_reducible apply Grew.drew | with_reducible apply Grew.drewN))))
      have hyl := y.len
      rw [hzz] at hst0
      have hcs := climbL_succ ss x ys k
      rw [hst0] at hcs
      have HST := Lib.hid hcs
      have hzN : (N : Int) ≤ 100000 := by omega
      have hkl : (k : Int) < (k : Int) + 1 := by omega
      have hk1 : (climbL ss x ys k).length + 1 ≤ 100002 := by omega
      clear hst0 hcs hsk hyk hr2 hr hc1 hs e1 e2 hl hN hn hk hlen hzr O0 GA hgb hcap
      rcases hs01 with rfl | rfl
      · go_wp2
        refine code_abs ?_
        intro Y hY
        have gY : Grew wr Y := by rw [hY]; exact (by repeat (first | with_reducible exact Grew.refl _ | with_reducible apply Grew.alloc | with_reducible apply Grew.grow | with_reducible apply Grew.drew | with_reducible apply Grew.drewN))
        have rY : Y.rowAt wr.heap.size = iv z.l := by rw [hY]; simp [go_sem]
        have zY : wr.heap.size < Y.heap.size := by rw [hY]; simp
        have qY : ∀ δ, (rowLoad 29 (.pointer (some ⟨b2, o2 + k * 32, none⟩))).run Try.prog (Y.grow δ) = .ok (.value (.agg (iv y.l))) (Y.grow δ) := fun δ => by rw [hY]; exact qld δ
        have GY := Lib.hid gY
        clear hY gY qld
        refine wp_region_flowX [8,9] (by kernel_rfl) ?_
        intro δf
        apply wpFlowX_quiets [0,1,2,3,4,5] (by decide +kernel) (by decide +kernel) (by kernel_rfl) (by intro _ _ _ d _ h; cases d <;> exact h) _
        · intro A hA δ'
          simp only [pickOps_cons, pickOps_nil, pick1_zero, pick1_succ]
          repeat (go_big_quiet_step ((fail)))
          exact wpQuiet_nil hA.out.symm
        apply wpFlowX_quiets [6] (by decide +kernel) (by decide +kernel) (by kernel_rfl) (by intro _ _ _ d _ h; cases d <;> exact h) _
        · intro A hA δ'
          simp only [pickOps_cons, pickOps_nil, pick1_zero, pick1_succ]
          repeat (go_big_quiet_step ((go_at_call 20; exact Calls.pure_of_g3 (rnode_w z y _))))
          exact wpQuiet_nil hA.out.symm
        refine wpFlowX_one 7 (by decide +kernel) (by kernel_rfl) (by decide +kernel) (by decide +kernel) ?_
        simp only [pickOps_cons, pickOps_nil, pick1_zero, pick1_succ]
        intro δf
        go_wp2_with (fail)
        refine ⟨(by first | assumption | (simp only [grow_grow, Array.append_assoc]; assumption) | exact Grew.refl _ | (simp only [grow_grow, Array.append_assoc]; exact (by repeat (first | with_reducible exact Grew.refl _ | with_reducible apply Grew.alloc | with_reducible apply Grew.grow | with_reducible apply Grew.drew | with_reducible apply Grew.drewN))) | exact (by repeat (first | with_reducible exact Grew.refl _ | with_reducible apply Grew.alloc | with_reducible apply Grew.grow | with_reducible apply Grew.drew | with_reducible apply Grew.drewN))), ?_⟩
        refine wpFlowX_esc 8 (by decide +kernel) (by kernel_rfl) (by decide +kernel) (by decide +kernel) ?_
        simp only [pickOps_cons, pickOps_nil, pick1_zero, pick1_succ]
        intro δf
        refine wpList_abs ?_
        intro X hX
        have gX : Grew wr X := GY.out.trans (by rw [hX]; exact (by repeat (first | with_reducible exact Grew.refl _ | with_reducible apply Grew.alloc | with_reducible apply Grew.grow | with_reducible apply Grew.drew | with_reducible apply Grew.drewN)))
        have hnl := (Idb.node z y).len
        refine wpList_appendE Idb.cs_len (by decide) rfl _ _ _ rfl _ ii _ 32 under_ids hif hz hsz hby (by exact (iv_size id0).trans id0_len) cs_one w X w.heap.size _ _ rfl rfl (climbL ss x ys k) [Idb.node z y] (GW.out.trans gX) (Nat.le_refl _) (Nat.le_trans zB gX.size) (by exact HO.out.grew gX) (by rw [hX]; exact (showsE_one_g Idb.cs_len _ _ (Idb.node z y) _ _ (by omega)).grew ⟨_, rfl⟩) (by simp only [maxLen, List.length_cons, List.length_nil]; omega) (by simp only [List.length_cons, List.length_nil]; omega) (by simp) ?_
        intro v2 W2 ho2 hg2 _
        have hst : climbL ss x ys (k + 1) = climbL ss x ys k ++ [Idb.node z y] := HST.out
        rw [← hst] at ho2
        have HG2 := Lib.hid hg2
        have HO2 := Lib.hid ho2
        clear ho2 hg2 hX gX hst
        refine wpList_nil_then ?_
        refine wpAny_one 9 (by decide +kernel) (by kernel_rfl) (by decide +kernel) ?_
        simp only [pickOps_cons, pickOps_nil, pick1_zero, pick1_succ]
        go_wp2_with (fail)
        refine wpAny_end (by decide +kernel) (by kernel_rfl) ?_
        go_wp2
        exact ⟨⟨k + 1, by omega, by go_num, HO2.out, HG2.out⟩, by simp only [intOf]; omega⟩
      · go_wp2
        refine code_abs ?_
        intro Y hY
        have gY : Grew wr Y := by rw [hY]; exact (by repeat (first | with_reducible exact Grew.refl _ | with_reducible apply Grew.alloc | with_reducible apply Grew.grow | with_reducible apply Grew.drew | with_reducible apply Grew.drewN))
        have rY : Y.rowAt wr.heap.size = iv z.l := by rw [hY]; simp [go_sem]
        have zY : wr.heap.size < Y.heap.size := by rw [hY]; simp
        have qY : ∀ δ, (rowLoad 29 (.pointer (some ⟨b2, o2 + k * 32, none⟩))).run Try.prog (Y.grow δ) = .ok (.value (.agg (iv y.l))) (Y.grow δ) := fun δ => by rw [hY]; exact qld δ
        have GY := Lib.hid gY
        clear hY gY qld
        refine wp_region_flowX [8,9] (by kernel_rfl) ?_
        intro δf
        apply wpFlowX_quiets [0,1,2,3,4,5] (by decide +kernel) (by decide +kernel) (by kernel_rfl) (by intro _ _ _ d _ h; cases d <;> exact h) _
        · intro A hA δ'
          simp only [pickOps_cons, pickOps_nil, pick1_zero, pick1_succ]
          repeat (go_big_quiet_step ((fail)))
          exact wpQuiet_nil hA.out.symm
        apply wpFlowX_quiets [6] (by decide +kernel) (by decide +kernel) (by kernel_rfl) (by intro _ _ _ d _ h; cases d <;> exact h) _
        · intro A hA δ'
          simp only [pickOps_cons, pickOps_nil, pick1_zero, pick1_succ]
          repeat (go_big_quiet_step ((go_at_call 20; exact Calls.pure_of_g3 (rnode_w y z _))))
          exact wpQuiet_nil hA.out.symm
        refine wpFlowX_one 7 (by decide +kernel) (by kernel_rfl) (by decide +kernel) (by decide +kernel) ?_
        simp only [pickOps_cons, pickOps_nil, pick1_zero, pick1_succ]
        intro δf
        go_wp2_with (fail)
        refine ⟨(by first | assumption | (simp only [grow_grow, Array.append_assoc]; assumption) | exact Grew.refl _ | (simp only [grow_grow, Array.append_assoc]; exact (by repeat (first | with_reducible exact Grew.refl _ | with_reducible apply Grew.alloc | with_reducible apply Grew.grow | with_reducible apply Grew.drew | with_reducible apply Grew.drewN))) | exact (by repeat (first | with_reducible exact Grew.refl _ | with_reducible apply Grew.alloc | with_reducible apply Grew.grow | with_reducible apply Grew.drew | with_reducible apply Grew.drewN))), ?_⟩
        refine wpFlowX_esc 8 (by decide +kernel) (by kernel_rfl) (by decide +kernel) (by decide +kernel) ?_
        simp only [pickOps_cons, pickOps_nil, pick1_zero, pick1_succ]
        intro δf
        refine wpList_abs ?_
        intro X hX
        have gX : Grew wr X := GY.out.trans (by rw [hX]; exact (by repeat (first | with_reducible exact Grew.refl _ | with_reducible apply Grew.alloc | with_reducible apply Grew.grow | with_reducible apply Grew.drew | with_reducible apply Grew.drewN)))
        have hnl := (Idb.node y z).len
        refine wpList_appendE Idb.cs_len (by decide) rfl _ _ _ rfl _ ii _ 32 under_ids hif hz hsz hby (by exact (iv_size id0).trans id0_len) cs_one w X w.heap.size _ _ rfl rfl (climbL ss x ys k) [Idb.node y z] (GW.out.trans gX) (Nat.le_refl _) (Nat.le_trans zB gX.size) (by exact HO.out.grew gX) (by rw [hX]; exact (showsE_one_g Idb.cs_len _ _ (Idb.node y z) _ _ (by omega)).grew ⟨_, rfl⟩) (by simp only [maxLen, List.length_cons, List.length_nil]; omega) (by simp only [List.length_cons, List.length_nil]; omega) (by simp) ?_
        intro v2 W2 ho2 hg2 _
        have hst : climbL ss x ys (k + 1) = climbL ss x ys k ++ [Idb.node y z] := HST.out
        rw [← hst] at ho2
        have HG2 := Lib.hid hg2
        have HO2 := Lib.hid ho2
        clear ho2 hg2 hX gX hst
        refine wpList_nil_then ?_
        refine wpAny_one 9 (by decide +kernel) (by kernel_rfl) (by decide +kernel) ?_
        simp only [pickOps_cons, pickOps_nil, pick1_zero, pick1_succ]
        go_wp2_with (fail)
        refine wpAny_end (by decide +kernel) (by kernel_rfl) ?_
        go_wp2
        exact ⟨⟨k + 1, by omega, by go_num, HO2.out, HG2.out⟩, by simp only [intOf]; omega⟩
    · obtain rfl : k = N := by omega
      have hge : ¬ ((k : Int) < (k : Int)) := by omega
      clear hk hkN hzr hl hN hn
      go_wp2
      go_ret
      exact ⟨_, rfl, HO.out, GW.out⟩
end Go.Proofs.Ytleaemeihljlnaa
/- The document's Check. -/
namespace Go.Proofs.Ytleaemeihljlnaa
set_option linter.unusedVariables false
set_option linter.unusedSimpArgs false
open Go.RowKit
set_option maxRecDepth 100000 in
set_option maxHeartbeats 6400000 in
theorem rcheck_w (root : Idb) (n i : Int) (leaf : Idb) (path : List Idb) (v : Value) (w : World) (hv : ShowsI w v path) (hp : path.length ≤ 1000000) :
    Calls Try.prog 18 #[.agg (iv root.l), .int .i64 n, .int .i64 i, .agg (iv leaf.l), v] w fun e w' => e = .returned (.bool (chk root n i leaf path)) ∧ Grew w w' := by
  obtain ⟨p, c, rfl⟩ := showsI_form hv
  have HV := Lib.hid hv
  clear hv
  have hrl := root.len
  have hll := leaf.len
  by_cases h1 : n < 1
  · have HC := Lib.hid (chk_out (n := n) (i := i) (by omega) root leaf path)
    go_enter Try.func18, Try.ntmps18
    go_wp2
    go_ret
    exact ⟨by rw [HC.out]; rfl, (by repeat (first | with_reducible exact Grew.refl _ | with_reducible apply Grew.alloc | with_reducible apply Grew.grow | with_reducible apply Grew.drew | with_reducible apply Grew.drewN))⟩
  by_cases h2 : 64 < n
  · have HC := Lib.hid (chk_out (n := n) (i := i) (by omega) root leaf path)
    go_enter Try.func18, Try.ntmps18
    go_wp2
    go_ret
    exact ⟨by rw [HC.out]; rfl, (by repeat (first | with_reducible exact Grew.refl _ | with_reducible apply Grew.alloc | with_reducible apply Grew.grow | with_reducible apply Grew.drew | with_reducible apply Grew.drewN))⟩
  by_cases h3 : i < 0
  · have HC := Lib.hid (chk_out (n := n) (i := i) (by omega) root leaf path)
    go_enter Try.func18, Try.ntmps18
    go_wp2
    go_ret
    exact ⟨by rw [HC.out]; rfl, (by repeat (first | with_reducible exact Grew.refl _ | with_reducible apply Grew.alloc | with_reducible apply Grew.grow | with_reducible apply Grew.drew | with_reducible apply Grew.drewN))⟩
  by_cases h4 : n ≤ i
  · have HC := Lib.hid (chk_out (n := n) (i := i) (by omega) root leaf path)
    go_enter Try.func18, Try.ntmps18
    go_wp2
    go_ret
    exact ⟨by rw [HC.out]; rfl, (by repeat (first | with_reducible exact Grew.refl _ | with_reducible apply Grew.alloc | with_reducible apply Grew.grow | with_reducible apply Grew.drew | with_reducible apply Grew.drewN))⟩
  obtain ⟨m, rfl⟩ : ∃ m : Nat, n = (m : Int) := ⟨n.toNat, by omega⟩
  obtain ⟨j, rfl⟩ : ∃ j : Nat, i = (j : Int) := ⟨i.toNat, by omega⟩
  have hc : chk root m j leaf path = (decide ((sidesOf m j).length = path.length) && ieq (top (sidesOf m j) leaf path).l root.l) := by
    unfold chk chkIn
    rw [decide_eq_true (show 1 ≤ (m : Int) ∧ (m : Int) ≤ 64 ∧ 0 ≤ (j : Int) ∧ (j : Int) < m by omega), Bool.true_and]
  have hs : sidesOf m j = (side m j).reverse := rfl
  have h01 := side_01 m j
  have hsl := side_len m j (by omega) (by omega)
  have C1 := Lib.hid (fun W => rsides_w m m j (Nat.le_refl _) (by omega) (by omega) (by omega) W)
  rw [← hs] at h01 C1
  obtain ⟨ss, hss⟩ : ∃ ss, sidesOf m j = ss := ⟨_, rfl⟩
  rw [hss] at hs hc h01 C1
  have hsl2 : ss.length < m := by rw [hs, List.length_reverse]; exact hsl
  have C2 := Lib.hid (fun (hl : ss.length = path.length) W v1 v2 (a : Shows W v1 (bvs ss)) (b : ShowsI W v2 path) => climb_w ss leaf path v1 v2 W h01 hl (by omega) a b)
  have HC := Lib.hid hc
  obtain ⟨S, hS⟩ : ∃ S, ss.length = S := ⟨_, rfl⟩
  obtain ⟨Q, hQ⟩ : ∃ Q, path.length = Q := ⟨_, rfl⟩
  have HS := Lib.hid hS
  have HQ := Lib.hid hQ
  have hSI : (S : Int) ≤ 64 := by omega
  have hQI : (Q : Int) ≤ 1000000 := by omega
  rw [hQ] at HV ⊢
  clear hc hs h01 hsl hss hsl2 hS hQ hp
  by_cases hSQ : S = Q
  · have htl := (top ss leaf path).len
    have hall := (prsk_all ss leaf path (by rw [HS.out, HQ.out, hSQ])).2
    rw [HS.out] at hall
    obtain ⟨T, hT⟩ : ∃ T, top ss leaf path = T := ⟨_, rfl⟩
    rw [hT] at htl HC hall
    have HALL := Lib.hid hall
    clear hT hall
    subst hSQ
    have pre : ∀ w' : World, Grew ((w.alloc (.cells (iv root.l) 29)).alloc (.cells (iv leaf.l) 29)) w' → Grew w w' ∧ w'.rowAt w.heap.size = iv root.l ∧ w'.rowAt (w.heap.size + 1) = iv leaf.l ∧ w.heap.size < w'.heap.size ∧ w.heap.size + 1 < w'.heap.size := fun w' hg => by
      have hsz := hg.size
      simp only [World.size_alloc] at hsz
      refine ⟨(show Grew w _ from (by repeat (first | with_reducible exact Grew.refl _ | with_reducible apply Grew.alloc | with_reducible apply Grew.grow | with_reducible apply Grew.drew | with_reducible apply Grew.drewN))).trans hg, ?_, ?_, by omega, by omega⟩
      · rw [Grew.rowAt hg _ (by simp; omega)]; simp [go_sem]
      · rw [Grew.rowAt hg _ (by simp)]; simp [go_sem]
    go_enter Try.func18, Try.ntmps18
    go_wp2_with (first | (go_at_call 33; refine (C1.out _).mono ?_; rintro e w' ⟨v, rfl, ho, hg⟩; obtain ⟨p1, c1, rfl⟩ := shows_form ho.shows; obtain ⟨gw, r0, r1, z0, z1⟩ := pre w' hg; have HO := Lib.hid ho; have GW := Lib.hid gw; clear ho hg gw pre; rw [bvs_len, HS.out] at HO ⊢) | (go_at_call 34; refine stop_of ?_))
    unfold Stop
    refine (C2.out (by rw [HS.out, HQ.out]) _ _ _ HO.out.shows (HV.out.grew GW.out)).mono ?_
    rintro e w'' ⟨v3, rfl, ho3, ⟨δ, rfl⟩⟩
    have z2 : w.heap.size < w'.heap.size + δ.n := by omega
    rw [HS.out] at ho3
    have hlen := climbL_len ss leaf path S
    obtain ⟨g, cap, hv, hgb, hgs, hcap⟩ := (ho3.form).resolve_left (by rintro ⟨_, h⟩; rw [h] at hlen; simp at hlen)
    rw [hlen] at hv
    subst hv
    have hld := load_idm (OwnE.range Idb.cs_len ho3 S _ (climbL_get ss leaf path S S (Nat.le_refl _)))
    rw [HALL.out] at hld
    have hd2 : ∀ n, (rowLoad 29 (.pointer (some ⟨g, S * 32, none⟩))).run Try.prog (w'.grow ⟨δ.objs, n⟩) = .ok (.value (.agg (iv T.l))) (w'.grow ⟨δ.objs, n⟩) := fun n => by
      have h7 := OwnE.range Idb.cs_len ho3 S _ (climbL_get ss leaf path S S (Nat.le_refl _))
      rw [HALL.out] at h7
      exact load_idm (World.rangeAt.grew h7 ⟨⟨#[], n⟩, by simp [grow_grow]⟩)
    have hSlt : (S : Int) < (S : Int) + 1 := by omega
    clear ho3 hcap hgb hgs hlen
    simp only []
    go_wp2
    go_region
    all_goals go_wp2
    go_ret
    refine ⟨?_, GW.out.trans (by repeat (first | with_reducible exact Grew.refl _ | with_reducible apply Grew.alloc | with_reducible apply Grew.grow | with_reducible apply Grew.drew | with_reducible apply Grew.drewN))⟩
    rw [HC.out, HS.out, HQ.out, decide_eq_true rfl, Bool.true_and]
    rfl
  · have hne : ¬ (S : Int) = (Q : Int) := by omega
    clear C2
    go_enter Try.func18, Try.ntmps18
    go_wp2_with (go_at_call 33; refine (C1.out _).mono ?_; rintro e w' ⟨v, rfl, ho, hg⟩; obtain ⟨p1, c1, rfl⟩ := shows_form ho.shows; have HO := Lib.hid ho; have HG := Lib.hid hg; clear ho hg; rw [bvs_len, HS.out] at HO ⊢)
    go_ret
    refine ⟨?_, (show Grew w _ from (by repeat (first | with_reducible exact Grew.refl _ | with_reducible apply Grew.alloc | with_reducible apply Grew.grow | with_reducible apply Grew.drew | with_reducible apply Grew.drewN))).trans HG.out⟩
    rw [HC.out, HS.out, HQ.out, decide_eq_false hSQ, Bool.false_and]
    rfl
end Go.Proofs.Ytleaemeihljlnaa
/- The document's Ids, on two slices that show the same. -/
namespace Go.Proofs.Ytleaemeihljlnaa
set_option linter.unusedVariables false
set_option linter.unusedSimpArgs false
open Go.RowKit
set_option maxRecDepth 100000 in
set_option maxHeartbeats 6400000 in
theorem ids_w (ls : List Idb) (v1 v2 : Value) (w : World) (hn : ls.length ≤ 100000) (h1 : ShowsI w v1 ls) (h2 : ShowsI w v2 ls) :
    Calls Try.prog 12 #[v1, v2] w fun e w' => e = .returned (.bool true) ∧ Grew w w' := by
  obtain ⟨p1, c1, rfl⟩ := showsI_form h1
  obtain ⟨p2, c2, rfl⟩ := showsI_form h2
  obtain ⟨N, hN⟩ : ∃ N, ls.length = N := ⟨_, rfl⟩
  have H1 := Lib.hid h1
  have H2 := Lib.hid h2
  clear h1 h2
  rw [hN] at H1 H2 hn ⊢
  go_enter Try.func12, Try.ntmps12
  go_wp2
  go_loopw [5] (fun i wr => ∃ k : Nat, k ≤ N ∧ i = .int .i64 k ∧ Grew w wr) (fun i _ => N - (intOf i).toNat)
  case atStart => exact ⟨0, by omega, rfl, Grew.refl _⟩
  case round =>
    obtain ⟨k, hk, rfl, δ, rfl⟩ := hrel
    by_cases hkN : k < N
    · have hlt : (k : Int) < (N : Int) := by omega
      obtain ⟨x, hx⟩ : ∃ x, ls[k]? = some x := ⟨_, List.getElem?_eq_getElem (by omega)⟩
      obtain ⟨b1, o1, rfl, e1, e2, hb1, hr1⟩ := showsI_some H1.out (by omega)
      obtain ⟨b2, o2, rfl, e3, e4, hb2, hr2⟩ := showsI_some H2.out (by omega)
      have q1 : ∀ δ, (rowLoad 29 (.pointer (some ⟨b1, o1 + k * 32, none⟩))).run Try.prog (w.grow δ) = .ok (.value (.agg (iv x.l))) (w.grow δ) := fun δ => load_idm (World.rangeAt.grew (hr1 k x hx) ⟨δ, rfl⟩)
      have q2 : ∀ δ, (rowLoad 29 (.pointer (some ⟨b2, o2 + k * 32, none⟩))).run Try.prog (w.grow δ) = .ok (.value (.agg (iv x.l))) (w.grow δ) := fun δ => load_idm (World.rangeAt.grew (hr2 k x hx) ⟨δ, rfl⟩)
      have hxl := x.len
      have hie : ieq x.l x.l = true := decide_eq_true rfl
      have hNI : (N : Int) ≤ 100000 := by omega
      clear e1 e2 e3 e4 hr1 hr2 hx hN hn hk
      go_wp2
      go_region
      all_goals
        go_wp2
        exact ⟨⟨k + 1, by omega, by go_num, (by repeat (first | with_reducible exact Grew.refl _ | with_reducible apply Grew.alloc | with_reducible apply Grew.grow | with_reducible apply Grew.drew | with_reducible apply Grew.drewN))⟩, by simp only [intOf]; omega⟩
    · obtain rfl : k = N := by omega
      have hge : ¬ ((k : Int) < (k : Int)) := by omega
      clear hk hkN hN hn
      go_wp2
      go_ret
      exact ⟨rfl, (by repeat (first | with_reducible exact Grew.refl _ | with_reducible apply Grew.alloc | with_reducible apply Grew.grow | with_reducible apply Grew.drew | with_reducible apply Grew.drewN))⟩
end Go.Proofs.Ytleaemeihljlnaa
/- The document's Of. -/
namespace Go.Proofs.Ytleaemeihljlnaa
set_option linter.unusedVariables false
set_option linter.unusedSimpArgs false
open Go.RowKit
theorem catk_step' (ls : List (List Nat)) (k : Nat) (h : k < ls.length) : bys (catk ls (k + 1)) = bys (catk ls k) ++ bys (ls.getD k []) := by rw [catk_succ ls k h, bys_append]
set_option maxRecDepth 100000 in
set_option maxHeartbeats 6400000 in
theorem rof_w (ls : List (List Nat)) (v : Value) (w : World) (hb : ∀ l ∈ ls, ∀ x ∈ l, x < 256) (hn : ls.length ≤ 1000000) (hl : ∀ k, (catk ls k).length ≤ 1000000) (hv : RowsAt w v ls) :
    Calls Try.prog 30 #[v] w fun e w' => e = .returned (.agg (iv (sum ls.flatten))) ∧ Grew w w' := by
  obtain ⟨ib, hi, hz, hsz, hby⟩ := info_b
  obtain ⟨vs, hv1, hv2, hv3⟩ := hv
  obtain ⟨p, c, rfl⟩ := shows_form hv2
  rw [hv1] at hv2 ⊢
  have HV1 := Lib.hid hv1
  have HV2 := Lib.hid hv2
  have HV3 := Lib.hid hv3
  have HB := Lib.hid hb
  have HL := Lib.hid hl
  have hsl := sum_len ls.flatten
  obtain ⟨N, hN⟩ : ∃ N, ls.length = N := ⟨_, rfl⟩
  have HN := Lib.hid hN
  rw [hN] at hn hv2 HV2 ⊢
  clear hv1 hv2 hv3 hb hl hN
  go_enter Try.func30, Try.ntmps30
  go_wp2
  obtain ⟨A, hA⟩ : ∃ A, w.alloc (.cells (iv id0) 29) = A := ⟨_, rfl⟩
  have gA : Grew w A := by rw [← hA]; exact (by repeat (first | with_reducible exact Grew.refl _ | with_reducible apply Grew.alloc | with_reducible apply Grew.grow | with_reducible apply Grew.drew | with_reducible apply Grew.drewN))
  have sA : A.heap.size = w.heap.size + 1 := by rw [← hA]; simp
  have r0 : A.rowAt w.heap.size = iv id0 := by rw [← hA]; simp [go_sem]
  have f0 : A.rowFree w.heap.size = true := by rw [← hA]; simp [go_sem]
  rw [hA]
  have GA := Lib.hid gA
  have R0 := Lib.hid r0
  have F0 := Lib.hid f0
  clear hA gA r0 f0
  go_loopw [4, 3] (fun i v wr => ∃ m : Nat, m ≤ N ∧ i = .int .i64 m ∧ OwnR wr A.heap.size 5 v (bys (catk ls m)) ∧ Grew A wr) (fun i _ _ => N - (intOf i).toNat)
  case atStart => exact ⟨0, by omega, rfl, OwnR.nil _ _ _, Grew.refl _⟩
  case round =>
    obtain ⟨m, hm, rfl, ho, hg⟩ := hrel
    have HO := Lib.hid ho
    have HG := Lib.hid hg
    have GW := Lib.hid (GA.out.trans hg)
    clear ho hg
    by_cases hmN : m < N
    · have hlt : (m : Int) < (N : Int) := by omega
      have hrow := (HV3.out m (by rw [HN.out]; exact hmN)).grew GW.out
      obtain ⟨b, o, hp, hbw, hcell⟩ : ∃ b o, p = some ⟨b, o, none⟩ ∧ b < w.heap.size ∧ w.cell? ⟨b, o + m, none⟩ = some (vs.getD m undef) := by
        rcases HV2.out with ⟨b, o, c2, he, hb2, hc⟩ | ⟨p2, c2, he, h0⟩
        · simp only [Value.slice.injEq] at he
          exact ⟨b, o, he.1, hb2, hc m _ (by simp [List.getD, HV1.out, HN.out, hmN])⟩
        · exfalso
          have := HV1.out
          rw [h0] at this
          simp at this
          have := HN.out
          omega
      subst hp
      have hcell2 := GW.out.cell hcell
      have hstep := Lib.hid (catk_step' ls m (by rw [HN.out]; exact hmN))
      have hlen1 := HL.out m
      have hlen2 := HL.out (m + 1)
      rw [catk_len ls m (by rw [HN.out]; exact hmN)] at hlen2
      obtain ⟨x, hx⟩ : ∃ x, ls.getD m [] = x := ⟨_, rfl⟩
      rw [hx] at hrow hstep hlen2
      obtain ⟨u, hu⟩ : ∃ u, vs.getD m undef = u := ⟨_, rfl⟩
      rw [hu] at hrow hcell hcell2
      obtain ⟨pu, cu, rfl⟩ := shows_form hrow
      have HR := Lib.hid hrow
      have hNI : (N : Int) ≤ 1000000 := by omega
      clear hx hu hcell hrow hn hm
      go_wp2_with (at_builtin; refine stop_of ?_)
      unfold Stop
      refine wpList_appends rfl _ _ _ rfl _ ib _ 1 under_bs hi hz hsz hby rfl A _ _ _ rfl rfl _ (bys x) HG.out (by exact HO.out) (by exact HR.out) (bys_one x) (by rw [bys_len, bys_len]; simp only [maxLen]; omega) (by rw [bys_len, bys_len]; omega) ?_
      intro v2 w3 ho2 hg2
      rw [← hstep.out] at ho2
      go_wp2
      exact ⟨⟨m + 1, by omega, by go_num, ho2, hg2⟩, by simp only [intOf]; omega⟩
    · obtain rfl : m = N := by omega
      have hge : ¬ ((m : Int) < (m : Int)) := by omega
      have hall := catk_all ls
      rw [HN.out] at hall
      rw [hall] at HO
      have hfl : ls.flatten.length ≤ 1000000 := by rw [← hall]; exact HL.out m
      have hfb : ∀ x ∈ ls.flatten, x < 256 := fun x hx => by
        obtain ⟨l, hl1, hl2⟩ := List.mem_flatten.1 hx
        exact HB.out l hl1 x hl2
      have C1 := Lib.hid (fun W v (h : Shows W v (bys ls.flatten)) => rsum_w ls.flatten v W (by omega) hfb h)
      have r2 : wr.rowAt w.heap.size = iv id0 := by rw [Grew.rowAt HG.out _ (by omega)]; exact R0.out
      have f2 : wr.rowFree w.heap.size = true := by rw [Grew.rowFree HG.out _ (by omega)]; exact F0.out
      have hlt2 : w.heap.size < wr.heap.size := by have := HG.out.size; omega
      clear hm hmN hn sA hall hfl hfb
      go_wp2_with (go_at_call 27; refine (C1.out _ _ HO.out.shows).mono ?_; rintro e w' ⟨rfl, δ, rfl⟩)
      refine bodyPost_ret (id_result rfl _ rfl (l := sum ls.flatten) ?_ hsl) rfl ⟨rfl, ?_⟩
      · rw [rowAt_grow_old _ _ _ (by rw [setRow_size]; exact hlt2), rowAt_setRow_free _ _ _ f2]
      · exact (Grew.setRow_new GW.out _ _ (Nat.le_refl _)).grow _
end Go.Proofs.Ytleaemeihljlnaa
/- The document's Leaf. -/
namespace Go.Proofs.Ytleaemeihljlnaa
set_option linter.unusedVariables false
set_option linter.unusedSimpArgs false
open Go.RowKit
set_option maxRecDepth 100000 in
set_option maxHeartbeats 1600000 in
theorem rleaf_w (l : List Nat) (v : Value) (w : World) (hl : l.length ≤ 1000) (hb : ∀ c ∈ l, c < 256) (hv : Shows w v (bys l)) : Calls Try.prog 16 #[v] w fun e w' => e = .returned (.agg (iv (Idb.leaf l).l)) ∧ Grew w w' := by
  obtain ⟨p, c, rfl⟩ := shows_form hv
  rw [bys_len] at hv ⊢
  have HV := Lib.hid hv
  have HB := Lib.hid hb
  clear hv hb
  go_enter Try.func16, Try.ntmps16
  go_wp2_with (go_at_call 30; refine stop_of ?_)
  unfold Stop
  have g0 : Grew w (w.alloc (.cells (iv id0) 29)) := (by repeat (first | with_reducible exact Grew.refl _ | with_reducible apply Grew.alloc | with_reducible apply Grew.grow | with_reducible apply Grew.drew | with_reducible apply Grew.drewN))
  have g1 : Grew (w.alloc (.cells (iv id0) 29)) ((w.alloc (.cells (iv id0) 29)).alloc (.cells #[.int .u8 0] 5)) := (by repeat (first | with_reducible exact Grew.refl _ | with_reducible apply Grew.alloc | with_reducible apply Grew.grow | with_reducible apply Grew.drew | with_reducible apply Grew.drewN))
  have o1 := shows_one (w.alloc (.cells (iv id0) 29)) (.int .u8 0) 5 1
  have o2 := rowsA_two ((w.alloc (.cells (iv id0) 29)).alloc (.cells #[.int .u8 0] 5)) (.slice (some ⟨w.heap.size + 1, 0, none⟩) 1 1) (.slice p l.length c) [0] l (by rw [World.size_alloc] at o1; exact o1) (HV.out.grew (g0.trans g1))
  rw [World.size_alloc, World.size_alloc] at o2
  have hfl : ([[0], l] : List (List Nat)).flatten = 0 :: l := by simp
  refine (rof_w [[0], l] _ _ ?_ (by simp) (fun k => by match k with
    | 0 => simp [catk]
    | 1 => simp [catk]
    | k + 2 => simp [catk]; omega) o2).mono ?_
  · intro l' hl' x hx
    simp only [List.mem_cons, List.not_mem_nil, or_false] at hl'
    rcases hl' with rfl | rfl
    · simp only [List.mem_cons, List.not_mem_nil, or_false] at hx; omega
    · exact HB.out x hx
  · rw [hfl]
    rintro e w2 ⟨rfl, hg⟩
    have hsl := sum_len (0 :: l)
    have hgw : Grew w w2 := (show Grew w _ from (by repeat (first | with_reducible exact Grew.refl _ | with_reducible apply Grew.alloc | with_reducible apply Grew.grow | with_reducible apply Grew.drew | with_reducible apply Grew.drewN))).trans hg
    have r2 : w2.rowFree w.heap.size = true := by rw [Grew.rowFree hg _ (by simp; omega)]; simp [go_sem]
    have r1 : w2.rowAt w.heap.size = iv id0 := by rw [Grew.rowAt hg _ (by simp; omega)]; simp [go_sem]
    have hlt : w.heap.size < w2.heap.size := by have := hg.size; simp at this; omega
    have HG := Lib.hid hgw
    clear hg hgw o1 o2 g0 g1
    go_wp2
    refine bodyPost_ret (id_result rfl _ rfl (l := Go.Proofs.Ytleaemeihljlnaa.sum (0 :: l)) ?_ hsl) rfl ⟨rfl, ?_⟩
    · rw [rowAt_setRow_free _ _ _ r2]
    · exact Grew.setRow_new HG.out _ _ (Nat.le_refl _)
end Go.Proofs.Ytleaemeihljlnaa
/- The chapter's example: what the trees of three leaves are. -/
namespace Go.Proofs.Ytleaemeihljlnaa
set_option linter.unusedVariables false
set_option linter.unusedSimpArgs false
open Go.RowKit
theorem id1_lt (c : Nat) (h : c < 256) : ∀ x ∈ id1 c, x < 256 := by
  intro x hx
  simp only [id1, List.mem_cons, List.mem_replicate] at hx
  rcases hx with rfl | ⟨_, rfl⟩ <;> omega
def Idb.one (c : Nat) (h : c < 256) : Idb := ⟨id1 c, id1_len c, id1_lt c h⟩
def i1 : Idb := Idb.one 1 (by decide)
def i2 : Idb := Idb.one 2 (by decide)
def i3 : Idb := Idb.one 3 (by decide)
theorem half2 : halfN 2 = 1 := by decide +kernel
theorem half3 : halfN 3 = 2 := by decide +kernel
theorem root2 (a b : Idb) : root [a, b] = a.node b := by
  rw [root_cut [a, b] (by simp) (by simp)]
  simp only [List.length_cons, List.length_nil, Nat.zero_add, Nat.reduceAdd, half2, List.take_succ_cons, List.take_zero, List.drop_succ_cons, List.drop_zero, root_one]
theorem root3 (a b c : Idb) : root [a, b, c] = (a.node b).node c := by
  rw [root_cut [a, b, c] (by simp) (by simp)]
  simp only [List.length_cons, List.length_nil, Nat.zero_add, Nat.reduceAdd, half3, List.take_succ_cons, List.take_zero, List.drop_succ_cons, List.drop_zero, root_one, root2]
theorem path3 (a b c : Idb) : path [a, b, c] 2 = [a.node b] := by
  rw [path_right [a, b, c] 2 (by simp) (by simp) (by simp only [List.length_cons, List.length_nil, Nat.zero_add, Nat.reduceAdd, half3]; omega)]
  simp only [List.length_cons, List.length_nil, Nat.zero_add, Nat.reduceAdd, half3, List.take_succ_cons, List.take_zero, List.drop_succ_cons, List.drop_zero, root2]
  rw [path_one _ _ (by simp)]
  rfl
theorem side3 : side 3 2 = [1] := by decide +kernel
theorem chk3 (a b c : Idb) : chk (root [a, b, c]) 3 2 c [a.node b] = true := by
  have h : sidesOf 3 2 = [1] := by
    show (side 3 2).reverse = [1]
    rw [side3]; rfl
  unfold chk
  rw [h, root3]
  have h2 : chkIn 3 2 = true := by decide
  rw [h2]
  simp [ieq, top, pr, nodeP]
theorem node12 : ieq (i1.node i2).l id0 = false := by decide +kernel
end Go.Proofs.Ytleaemeihljlnaa
/- A slice that is built of three ids. -/
namespace Go.Proofs.Ytleaemeihljlnaa
set_option linter.unusedVariables false
set_option linter.unusedSimpArgs false
open Go.RowKit
theorem fill_one {S : Nat} {C D : Array Value} (k : Nat) (rest : List (Nat × Value)) (hC : C.size = S) (hD : k * S + S ≤ D.size) :
    ∃ D' : Array Value, D'.toList = D.toList.take (k * S) ++ C.toList ++ D.toList.drop (k * S + S) ∧ D'.size = D.size ∧ Instr.fill (fun i => some (i * S, S)) D ((k, .agg C) :: rest) = Instr.fill (fun i => some (i * S, S)) D' rest := by
  have sa : (Value.agg C).cells = C := rfl
  have ea : C.zipIdx = (C.toList.zipIdx).toArray := by cases C; simp
  have h1 := foldl_set C.toList 0 (k * S) D (by simp [hC]; omega)
  obtain ⟨D', hD'⟩ : ∃ D', (C.toList.zipIdx.foldl (fun cs (x : Value × Nat) => cs.setIfInBounds (k * S + x.2) x.1) D) = D' := ⟨_, rfl⟩
  have h2 : D'.toList = D.toList.take (k * S) ++ C.toList ++ D.toList.drop (k * S + S) := by
    rw [← hD']; simpa [hC] using h1
  refine ⟨D', h2, ?_, ?_⟩
  · have := congrArg List.length h2
    simp [hC] at this
    omega
  · rw [Instr.fill]
    simp only [sa, hC]
    rw [if_neg (by simp; omega), ea, List.foldl_toArray]
    exact congrArg (fun z => Instr.fill (fun i => some (i * S, S)) z rest) hD'
theorem fill_three {S : Nat} {C0 C1 C2 D : Array Value} (h0 : C0.size = S) (h1 : C1.size = S) (h2 : C2.size = S) (hD : D.size = 3 * S) :
    Instr.fill (fun i => some (i * S, S)) D [(0, .agg C0), (1, .agg C1), (2, .agg C2)] = some (C0.toList ++ (C1.toList ++ C2.toList)).toArray := by
  have l0 : C0.toList.length = S := by simp [h0]
  have l1 : C1.toList.length = S := by simp [h1]
  have l2 : C2.toList.length = S := by simp [h2]
  obtain ⟨D1, e1, s1, f1⟩ := fill_one (S := S) (C := C0) (D := D) 0 [(1, .agg C1), (2, .agg C2)] h0 (by omega)
  obtain ⟨D2, e2, s2, f2⟩ := fill_one (S := S) (C := C1) (D := D1) 1 [(2, .agg C2)] h1 (by omega)
  obtain ⟨D3, e3, s3, f3⟩ := fill_one (S := S) (C := C2) (D := D2) 2 [] h2 (by omega)
  rw [f1, f2, f3, Instr.fill]
  congr 1
  refine arr_ext ?_
  rw [e3]
  have t1 : D1.toList.take (1 * S) = C0.toList := by
    rw [e1, Nat.zero_mul, List.take_zero, List.nil_append, Nat.one_mul, List.take_left' l0]
  have t2 : D2.toList.take (2 * S) = C0.toList ++ C1.toList := by
    rw [e2, t1, List.take_left' (by rw [List.length_append, l0, l1]; omega)]
  have t3 : D2.toList.drop (2 * S + S) = [] := List.drop_of_length_le (by have : D2.toList.length = 3 * S := by simp [s2, s1, hD]
                                                                          omega)
  rw [t2, t3, List.append_nil, List.append_assoc]
theorem run_buildSlice3 {tt e : TypeId} {i : TypeInfo} {S : Nat} {C0 C1 C2 Z : Array Value} (ht : Try.prog.underlying tt = some (.slice e)) (hi : Try.prog.info? e = some i) (hz : i.zero = some (.agg Z)) (hs : i.size = S) (h0 : C0.size = S) (h1 : C1.size = S) (h2 : C2.size = S) (hp : 0 < S) (hS : S ≤ 1000) (w : World) :
    (Instr.buildSlice tt 3 #[(0, .agg C0), (1, .agg C1), (2, .agg C2)]).run Try.prog w = .ok (.slice (some ⟨w.heap.size, 0, none⟩) 3 3) (w.alloc (.cells (C0.toList ++ (C1.toList ++ C2.toList)).toArray e)) := by
  have hsz : (sizeOf e).run Try.prog w = .ok S w := by simp [sizeOf, typeInfo, hi, hs]
  have hzv : (zeroValue e).run Try.prog w = .ok (.agg Z) w := by simp [zeroValue, typeInfo, hi, hz]
  have h24 : ¬ (3 * S > 2 ^ 24) := by omega
  have hn0 : ¬ (3 * S = 0) := by omega
  unfold Instr.buildSlice
  simp only [Sem.run_bind, run_underlying ht w, Result.andThen_ok, hsz, h24, hn0, if_false, hzv, Sem.run_pure]
  rw [fill_three h0 h1 h2 (by simp)]
  simp [newRow]
def islBuild3 (x y z : Value) : Sem Next := do let v ← Instr.buildSlice 22 3 #[(0, x), (1, y), (2, z)]; pure (.value v)
section
variable (ρ : Operand → Value) (d : Option Tmp) (x y z : Operand) (t : TypeId) (p : String) (a : Array Edge) (g : Option (Nat × Bool))
@[go_sem ↓] theorem ex_islBuild3 : execOp ρ ⟨d, .buildSlice 22 3 #[(0, x), (1, y), (2, z)], t, p, a, g⟩ = islBuild3 (ρ x) (ρ y) (ρ z) := by simp [execOp, islBuild3]
end
@[go_sem] theorem run_islBuild3 (a b c : List Nat) (ha : a.length = 32) (hb : b.length = 32) (hc : c.length = 32) (w : World) : (islBuild3 (.agg (iv a)) (.agg (iv b)) (.agg (iv c))).run Try.prog w = .ok (.value (.slice (some ⟨w.heap.size, 0, none⟩) 3 3)) (w.alloc (.cells (iv (a ++ (b ++ c))) 29)) := by
  obtain ⟨i, hi, hz, hs, _⟩ := info_id
  unfold islBuild3
  rw [Sem.run_bind, run_buildSlice3 under_ids hi hz hs (by rw [iv_size, ha]) (by rw [iv_size, hb]) (by rw [iv_size, hc]) (by omega) (by omega)]
  rw [iv_bys, iv_bys, iv_bys, ← bys_append, ← bys_append]
  rfl
end Go.Proofs.Ytleaemeihljlnaa
/- The chapter's example holds. -/
namespace Go.Proofs.Ytleaemeihljlnaa
set_option linter.unusedVariables false
set_option linter.unusedSimpArgs false
open Go.RowKit
theorem made3 (w : World) (a b c : Idb) : ShowsI (w.alloc (.cells (iv (a.l ++ (b.l ++ c.l))) 29)) (.slice (some ⟨w.heap.size, 0, none⟩) 3 3) [a, b, c] := by
  have h := (OwnE.made Idb.cs_len w w.heap.size 29 [a, b, c] (Nat.le_refl _) (by simp [maxLen])).shows Idb.cs_len
  have e1 : ([a, b, c].flatMap Idb.cs).toArray = iv (a.l ++ (b.l ++ c.l)) := by
    simp only [List.flatMap_cons, List.flatMap_nil, List.append_nil, Idb.cs, ← bys_append]
    rfl
  rw [e1] at h
  exact h
theorem flow_abs {P : Program} {md : Region.Mode} {ops : Array Oper} {Q : Exit → Act → World → Prop} {f : Nat} {li : Array Bool} {a : Act} {X : World} (h : ∀ Y, Y = X → wpFlow P md ops Q f li a Y) : wpFlow P md ops Q f li a X := h X rfl
set_option maxRecDepth 100000 in
set_option maxHeartbeats 6400000 in
theorem awake_w (w : World) : Calls Try.prog 9 #[] w fun e w' => e = .returned (.bool true) ∧ Grew w w' := by
  go_enter Try.func9, Try.ntmps9
  go_wp2_with (go_at_call 10; refine stop_of ?_)
  unfold Stop
  refine Calls_abs ?_
  intro X hX
  have hm : ShowsI X (.slice (some ⟨w.heap.size, 0, none⟩) 3 3) [i1, i2, i3] := by rw [hX]; exact made3 w i1 i2 i3
  have gX : Grew w X := by rw [hX]; exact (by repeat (first | with_reducible exact Grew.refl _ | with_reducible apply Grew.alloc | with_reducible apply Grew.grow | with_reducible apply Grew.drew | with_reducible apply Grew.drewN))
  refine (path_w [i1, i2, i3] 2 _ X hm).mono ?_
  rintro e W1 ⟨v1, rfl, ho, hg⟩
  have hok : pathOk [i1, i2, i3] 2 = true := by decide
  have hof : pathOf [i1, i2, i3] 2 = [i1.node i2] := by
    unfold pathOf
    rw [if_pos hok]
    exact path3 i1 i2 i3
  rw [hof] at ho
  rw [hok]
  obtain ⟨g, cap, rfl, hgb, hgs, hcap⟩ := ho.form.resolve_left (by rintro ⟨_, h⟩; simp at h)
  have hp := OwnE.range Idb.cs_len ho 0 (i1.node i2) rfl
  have hm1 := hm.grew hg
  have G1 := Lib.hid (gX.trans hg)
  have HM := Lib.hid hm1
  have HO := Lib.hid ho
  have HP := Lib.hid hp
  clear hX hm gX ho hg hm1 hp hgb hok hof
  have hcell : ∀ j x, [i1, i2, i3][j]? = some x → W1.rangeAt w.heap.size (0 + j * 32) x.cs := by
    rcases HM.out with ⟨b, o, c, he, _, _, h⟩ | ⟨p, c, he, h⟩
    · simp only [Value.slice.injEq, Option.some.injEq, Addr.mk.injEq] at he
      obtain ⟨⟨rfl, rfl, _⟩, _⟩ := he
      exact h
    · simp at h
  have q0 : ∀ δ, (rowLoad 29 (.pointer (some ⟨w.heap.size, 0, none⟩))).run Try.prog (W1.grow δ) = .ok (.value (.agg (iv i1.l))) (W1.grow δ) := fun δ => load_idg (hcell 0 i1 rfl) δ
  have q1 : ∀ δ, (rowLoad 29 (.pointer (some ⟨w.heap.size, 32, none⟩))).run Try.prog (W1.grow δ) = .ok (.value (.agg (iv i2.l))) (W1.grow δ) := fun δ => load_idg (hcell 1 i2 rfl) δ
  have q2 : ∀ δ, (rowLoad 29 (.pointer (some ⟨w.heap.size, 64, none⟩))).run Try.prog (W1.grow δ) = .ok (.value (.agg (iv i3.l))) (W1.grow δ) := fun δ => load_idg (hcell 2 i3 rfl) δ
  have q3 : ∀ δ, (rowLoad 29 (.pointer (some ⟨g, 0, none⟩))).run Try.prog (W1.grow δ) = .ok (.value (.agg (iv (i1.node i2).l))) (W1.grow δ) := fun δ => load_idg (by have := HP.out; rwa [Nat.zero_mul] at this) δ
  clear hcell
  have cN1 := fun W => node_w i1 i2 W
  have cN2 := fun W => node_w (i1.node i2) i3 W
  have cR : ∀ W, Grew W1 W → Calls Try.prog 13 #[.slice (some ⟨w.heap.size, 0, none⟩) 3 3] W fun e w' => e = .returned (.agg (iv ((i1.node i2).node i3).l)) ∧ Grew W w' := fun W g => by
    have := root_w 3 [i1, i2, i3] _ W (Nat.le_refl _) (by simp) (HM.out.grew g)
    rwa [root3] at this
  have cC : ∀ W, Grew W1 W → Calls Try.prog 17 #[.agg (iv ((i1.node i2).node i3).l), .int .i64 3, .int .i64 2, .agg (iv i3.l), .slice (some ⟨g, 0, none⟩) 1 cap] W fun e w' => e = .returned (.bool true) ∧ Grew W w' := fun W g' => by
    have := check_w ((i1.node i2).node i3) 3 2 i3 [i1.node i2] _ W ((HO.out.shows Idb.cs_len).grew g') (by simp)
    rwa [← root3, chk3] at this
  have cL : ∀ W, Calls Try.prog 15 #[.slice none 0 0] W fun e w' => e = .returned (.agg (iv (Idb.leaf []).l)) ∧ Grew W w' := fun W => leaf_w [] _ W (by simp) (by simp) (.inr ⟨_, _, rfl, rfl⟩)
  have cS : ∀ W v, Shows W v (bys [0]) → Calls Try.prog 21 #[v] W fun e w' => e = .returned (.agg (iv (Idb.leaf []).l)) ∧ Grew W w' := fun W v h => sum_w [0] v W (by decide) (by decide) h
  have hll := (Idb.leaf []).len
  have f3 : ieq (Idb.leaf []).l (Idb.leaf []).l = true := decide_eq_true rfl
  have S := Lib.hid cS
  have e0 := node12
  obtain ⟨n, hn⟩ : ∃ n, i1.node i2 = n := ⟨_, rfl⟩
  rw [hn] at cN1 cN2 cR cC q3 e0
  obtain ⟨m, hm⟩ : ∃ m, n.node i3 = m := ⟨_, rfl⟩
  rw [hm] at cN2 cR cC
  have hnl := n.len
  have hml := m.len
  have f1 : ieq n.l n.l = true := decide_eq_true rfl
  have f2 : ieq m.l m.l = true := decide_eq_true rfl
  have N1 := Lib.hid cN1
  have N2 := Lib.hid cN2
  have R := Lib.hid cR
  have C := Lib.hid cC
  have L := Lib.hid cL
  clear cN1 cN2 cR cC cL cS hn hm HP HM HO hcap
  simp only []
  go_wp2
  refine wp_region_flow (by kernel_rfl) ?_
  intro δf
  apply wpFlow_quiets [0,1,2,3,4,5,6,7,8,9,10,11,12,13,14,15] (by decide +kernel) (by decide +kernel) (by kernel_rfl) (by intro _ _ _ d _ h; cases d <;> exact h) _
  · intro A hA δ'
    simp only [pickOps_cons, pickOps_nil, pick1_zero, pick1_succ]
    repeat (go_big_quiet_step ((fail)))
    exact wpQuiet_nil hA.out.symm
  apply wpFlow_quiets [16] (by decide +kernel) (by decide +kernel) (by kernel_rfl) (by intro _ _ _ d _ h; cases d <;> exact h) _
  · intro A hA δ'
    simp only [pickOps_cons, pickOps_nil, pick1_zero, pick1_succ]
    repeat (go_big_quiet_step ((go_at_call 19; exact Calls.pure_of_g3 (N1.out _))))
    exact wpQuiet_nil hA.out.symm
  apply wpFlow_quiets [17,18,19,20] (by decide +kernel) (by decide +kernel) (by kernel_rfl) (by intro _ _ _ d _ h; cases d <;> exact h) _
  · intro A hA δ'
    simp only [pickOps_cons, pickOps_nil, pick1_zero, pick1_succ]
    repeat (go_big_quiet_step ((fail)))
    exact wpQuiet_nil hA.out.symm
  apply wpFlow_quiets [21] (by decide +kernel) (by decide +kernel) (by kernel_rfl) (by intro _ _ _ d _ h; cases d <;> exact h) _
  · intro A hA δ'
    simp only [pickOps_cons, pickOps_nil, pick1_zero, pick1_succ]
    repeat (go_big_quiet_step ((go_at_call 13; exact Calls.pure_of_g3 (R.out _ (by repeat (first | with_reducible exact Grew.refl _ | with_reducible apply Grew.alloc | with_reducible apply Grew.grow | with_reducible apply Grew.drew | with_reducible apply Grew.drewN))))))
    exact wpQuiet_nil hA.out.symm
  apply wpFlow_quiets [22,23,24,25,26,27] (by decide +kernel) (by decide +kernel) (by kernel_rfl) (by intro _ _ _ d _ h; cases d <;> exact h) _
  · intro A hA δ'
    simp only [pickOps_cons, pickOps_nil, pick1_zero, pick1_succ]
    repeat (go_big_quiet_step ((fail)))
    exact wpQuiet_nil hA.out.symm
  apply wpFlow_quiets [28] (by decide +kernel) (by decide +kernel) (by kernel_rfl) (by intro _ _ _ d _ h; cases d <;> exact h) _
  · intro A hA δ'
    simp only [pickOps_cons, pickOps_nil, pick1_zero, pick1_succ]
    repeat (go_big_quiet_step ((go_at_call 19; exact Calls.pure_of_g3 (N2.out _))))
    exact wpQuiet_nil hA.out.symm
  apply wpFlow_quiets [29,30,31,32,33,34,35,36,37] (by decide +kernel) (by decide +kernel) (by kernel_rfl) (by intro _ _ _ d _ h; cases d <;> exact h) _
  · intro A hA δ'
    simp only [pickOps_cons, pickOps_nil, pick1_zero, pick1_succ]
    repeat (go_big_quiet_step ((fail)))
    exact wpQuiet_nil hA.out.symm
  apply wpFlow_quiets [38] (by decide +kernel) (by decide +kernel) (by kernel_rfl) (by intro _ _ _ d _ h; cases d <;> exact h) _
  · intro A hA δ'
    simp only [pickOps_cons, pickOps_nil, pick1_zero, pick1_succ]
    repeat (go_big_quiet_step ((go_at_call 19; exact Calls.pure_of_g3 (N1.out _))))
    exact wpQuiet_nil hA.out.symm
  apply wpFlow_quiets [39,40,41,42,43] (by decide +kernel) (by decide +kernel) (by kernel_rfl) (by intro _ _ _ d _ h; cases d <;> exact h) _
  · intro A hA δ'
    simp only [pickOps_cons, pickOps_nil, pick1_zero, pick1_succ]
    repeat (go_big_quiet_step ((fail)))
    exact wpQuiet_nil hA.out.symm
  apply wpFlow_quiets [44] (by decide +kernel) (by decide +kernel) (by kernel_rfl) (by intro _ _ _ d _ h; cases d <;> exact h) _
  · intro A hA δ'
    simp only [pickOps_cons, pickOps_nil, pick1_zero, pick1_succ]
    repeat (go_big_quiet_step ((go_at_call 13; exact Calls.pure_of_g3 (R.out _ (by repeat (first | with_reducible exact Grew.refl _ | with_reducible apply Grew.alloc | with_reducible apply Grew.grow | with_reducible apply Grew.drew | with_reducible apply Grew.drewN))))))
    exact wpQuiet_nil hA.out.symm
  apply wpFlow_quiets [45,46,47,48] (by decide +kernel) (by decide +kernel) (by kernel_rfl) (by intro _ _ _ d _ h; cases d <;> exact h) _
  · intro A hA δ'
    simp only [pickOps_cons, pickOps_nil, pick1_zero, pick1_succ]
    repeat (go_big_quiet_step ((fail)))
    exact wpQuiet_nil hA.out.symm
  apply wpFlow_quiets [49] (by decide +kernel) (by decide +kernel) (by kernel_rfl) (by intro _ _ _ d _ h; cases d <;> exact h) _
  · intro A hA δ'
    simp only [pickOps_cons, pickOps_nil, pick1_zero, pick1_succ]
    repeat (go_big_quiet_step ((go_at_call 17; exact Calls.pure_of_g3 (C.out _ (by repeat (first | with_reducible exact Grew.refl _ | with_reducible apply Grew.alloc | with_reducible apply Grew.grow | with_reducible apply Grew.drew | with_reducible apply Grew.drewN))))))
    exact wpQuiet_nil hA.out.symm
  apply wpFlow_quiets [50,51] (by decide +kernel) (by decide +kernel) (by kernel_rfl) (by intro _ _ _ d _ h; cases d <;> exact h) _
  · intro A hA δ'
    simp only [pickOps_cons, pickOps_nil, pick1_zero, pick1_succ]
    repeat (go_big_quiet_step ((fail)))
    exact wpQuiet_nil hA.out.symm
  apply wpFlow_quiets [52] (by decide +kernel) (by decide +kernel) (by kernel_rfl) (by intro _ _ _ d _ h; cases d <;> exact h) _
  · intro A hA δ'
    simp only [pickOps_cons, pickOps_nil, pick1_zero, pick1_succ]
    repeat (go_big_quiet_step ((go_at_call 15; exact Calls.pure_of_g3 (L.out _))))
    exact wpQuiet_nil hA.out.symm
  refine wpFlow_one 53 (by decide +kernel) (by kernel_rfl) (by kernel_rfl) ?_
  refine wpFlowS_intro ?_
  simp only [pickOps_cons, pickOps_nil, pick1_zero, pick1_succ]
  intro δf
  go_wp2_with (fail)
  refine ⟨(by first | assumption | (simp only [grow_grow, Array.append_assoc]; assumption) | exact Grew.refl _ | (simp only [grow_grow, Array.append_assoc]; exact (by repeat (first | with_reducible exact Grew.refl _ | with_reducible apply Grew.alloc | with_reducible apply Grew.grow | with_reducible apply Grew.drew | with_reducible apply Grew.drewN))) | exact (by repeat (first | with_reducible exact Grew.refl _ | with_reducible apply Grew.alloc | with_reducible apply Grew.grow | with_reducible apply Grew.drew | with_reducible apply Grew.drewN))), ?_⟩
  refine flow_abs ?_
  intro Y hY
  have gY : Grew W1 Y := by rw [hY]; exact (by repeat (first | with_reducible exact Grew.refl _ | with_reducible apply Grew.alloc | with_reducible apply Grew.grow | with_reducible apply Grew.drew | with_reducible apply Grew.drewN))
  have GY := Lib.hid (G1.out.trans gY)
  have sY : ∀ v, (∃ δ : Junk, Y = (W1.grow δ).alloc (.cells #[.int .u8 0] 5) ∧ v = .slice (some ⟨W1.heap.size + δ.n, 0, none⟩) 1 1) → Shows Y v (bys [0]) := by
    rintro v ⟨δ, h, rfl⟩
    rw [h]
    have := shows_one (W1.grow δ) (.int .u8 0) 5 1
    rwa [size_grow] at this
  have SY := Lib.hid sY
  have HY := Lib.hid hY
  clear gY q0 q1 q2 q3 G1 hY sY
  apply wpFlow_quiets [54] (by decide +kernel) (by decide +kernel) (by kernel_rfl) (by intro _ _ _ d _ h; cases d <;> exact h) _
  · intro A hA δ'
    simp only [pickOps_cons, pickOps_nil, pick1_zero, pick1_succ]
    repeat (go_big_quiet_step ((go_at_call 21; exact Calls.pure_of_g (S.out _ _ (Shows.grew (SY.out _ ⟨_, HY.out, rfl⟩) (by repeat (first | with_reducible exact Grew.refl _ | with_reducible apply Grew.alloc | with_reducible apply Grew.grow | with_reducible apply Grew.drew | with_reducible apply Grew.drewN)))))))
    exact wpQuiet_nil hA.out.symm
  apply wpFlow_quiets [55,56,57] (by decide +kernel) (by decide +kernel) (by kernel_rfl) (by intro _ _ _ d _ h; cases d <;> exact h) _
  · intro A hA δ'
    simp only [pickOps_cons, pickOps_nil, pick1_zero, pick1_succ]
    repeat (go_big_quiet_step ((fail)))
    exact wpQuiet_nil hA.out.symm
  refine wpFlow_end (by decide +kernel) (by kernel_rfl) ?_
  intro δf
  go_wp2
  go_ret
  exact ⟨rfl, GY.out.trans (by repeat (first | with_reducible exact Grew.refl _ | with_reducible apply Grew.alloc | with_reducible apply Grew.grow | with_reducible apply Grew.drew | with_reducible apply Grew.drewN))⟩
end Go.Proofs.Ytleaemeihljlnaa
/- An argument of ids, opened. -/
namespace Go.Proofs.Ytleaemeihljlnaa
set_option linter.unusedVariables false
set_option linter.unusedSimpArgs false
open Go.ChangeShapes Go.WideShapes Go.ChangeAt Go.RowKit
/-- The cells of an id, read. -/
theorem cells_id {H : Type} {enc : TypeId × Value → H} {W : World} {base : Nat} {sp : Nat → Bool} {fuel : Nat} {cs : List Value} {d : DataW H × List MemPlace}
    (hn : cs.length = 32) (hf : DataW.trod enc Try.prog W base sp true fuel 29 cs = some d) : ∃ x : Idb, cs = x.cs := by
  obtain ⟨xs, m, rfl, hx, hl, hn2, hel⟩ := DataW.trod_array under_id hf
  rw [cells8] at hel
  obtain ⟨l, e1, e2, e3⟩ := bytes_of_trod (cs := cs) (xs := xs) (by rw [hn2, hn]) (fun i hi => by
    have := hel i (by omega)
    simpa using this)
  exact ⟨⟨l, by rw [e1] at hn; simpa using hn, e2⟩, e1⟩
theorem open_ids {H : Type} {enc : TypeId × Value → H} {W : World} {v : Value} {d : DataW H} {p : List MemPlace} (h : DataW.Trod enc Try.prog W 0 (fun _ => true) true 22 v d p) (hv : v.cells = #[v]) :
    ∃ (q : Option Addr) (c : Nat) (l : List Idb), v = .slice q l.length c ∧ l.length ≤ maxLen ∧ ShowsI W (.slice q l.length c) l := by
  obtain ⟨fuel, hf⟩ := h
  rw [hv] at hf
  rcases Deep.open_slice under_ids hf with ⟨hcs, _⟩ | ⟨a, len, cap, m, n, D, Pl, hcs, _, hl, hm, hmm, _, hel⟩
  · obtain rfl : v = .slice none 0 0 := by simpa using hcs
    exact ⟨none, 0, [], rfl, by simp, .inr ⟨_, _, rfl, rfl⟩⟩
  · obtain rfl : v = .slice (some a) len cap := by simpa using hcs
    simp only [if_true] at hmm
    subst hmm
    rw [cellsId] at hel
    have each : ∀ i, i < m → ∃ x : Idb, ∀ j, j < 32 → W.cell? ((a.add (i * 32)).add j) = x.cs[j]? := fun i hi => by
      obtain ⟨cs', h1, h2⟩ := hel i hi
      obtain ⟨_, hlen, hget⟩ := World.cells?_some h1
      obtain ⟨x, rfl⟩ := cells_id hlen h2
      exact ⟨x, hget⟩
    have pick : ∀ n, n ≤ m → ∃ l : List Idb, l.length = n ∧ ∀ i x, l[i]? = some x → ∀ j, j < 32 → W.cell? ((a.add (i * 32)).add j) = x.cs[j]? := by
      intro n
      induction n with
      | zero => exact fun _ => ⟨[], rfl, by simp⟩
      | succ n ih =>
        intro hn
        obtain ⟨l, h1, h2⟩ := ih (by omega)
        obtain ⟨x, h3⟩ := each n (by omega)
        refine ⟨l ++ [x], by simp [h1], fun i y hy => ?_⟩
        rcases Nat.lt_or_ge i n with h | h
        · rw [List.getElem?_append_left (by omega)] at hy
          exact h2 i y hy
        · rw [List.getElem?_append_right (by omega)] at hy
          have hi : i = n := by
            have := (List.getElem?_eq_some_iff.1 hy).1
            simp at this; omega
          subst hi
          simp only [h1, Nat.sub_self, List.getElem?_cons_zero, Option.some.injEq] at hy
          subst hy
          exact h3
    obtain ⟨l, hll, hcell⟩ := pick len hl
    refine ⟨some a, m, l, by rw [hll], by omega, ?_⟩
    cases hx : l with
    | nil => exact .inr ⟨_, _, rfl, rfl⟩
    | cons x0 r =>
      rw [← hx]
      have h0 := hcell 0 x0 (by rw [hx]; rfl) 0 (by omega)
      have hv0 : ∃ v, x0.cs[0]? = some v := ⟨_, List.getElem?_eq_getElem (by rw [x0.cs_len]; omega)⟩
      obtain ⟨v0, hv0⟩ := hv0
      rw [hv0, Nat.zero_mul, Deep.add_add] at h0
      have ha : a.add (0 + 0) = a := by unfold Addr.add; simp
      rw [ha] at h0
      obtain ⟨e, hb⟩ := plain_of_cell h0
      refine .inl ⟨a.block, a.off, m, by rw [e], by omega, hb, fun j x hj i v hi => ?_⟩
      have hi2 : i < 32 := by have := (List.getElem?_eq_some_iff.1 hi).1; rwa [x.cs_len] at this
      have := hcell j x hj i hi2
      rw [hi, Deep.add_add, e, add_off] at this
      rw [Nat.add_assoc]
      exact this
end Go.Proofs.Ytleaemeihljlnaa
