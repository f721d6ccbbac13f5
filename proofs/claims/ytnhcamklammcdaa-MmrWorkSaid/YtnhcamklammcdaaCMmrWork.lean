/- 'stepladderlaw06.MmrWork' answers true for every total, int, total, slice of totals, without panicking, and what it was handed reads as before. Conditions: none. -/
import Derived.Test.YtnhcamklammcdaaRows
import Derived.Test.YtnhcamklammcdaaM7
/- The walk of MmrJoins. -/
namespace Go.Proofs.Ytnhcamklammcdaa
set_option linter.unusedVariables false
set_option linter.unusedSimpArgs false
open Go.RowKit
set_option maxRecDepth 100000
theorem add_comm' (a b : Wd) : a.add b = b.add a := Wd.ext' (by rw [Wd.add_n, Wd.add_n, Nat.add_comm])
set_option maxHeartbeats 6400000 in
theorem mmrJoins_walk (a b : Tot) (w : World) : Calls Try.prog 4 #[a.v, b.v] w fun e w' => e = .returned (.bool true) ∧ Grew w w' := by
  have hal := a.h.len
  have hbl := b.h.len
  have c1 := fun W => join_w a b W
  have c2 := fun W => join_w b a W
  have c3 := fun W => wadd_w a.w b.w W
  have hjw : (Tot.join a b).w = a.w.add b.w := rfl
  have hkw : (Tot.join b a).w = a.w.add b.w := by rw [join_wn, add_comm']
  have hjn : (Tot.join a b).n = wrap64 (a.n + b.n) := rfl
  have hkn : (Tot.join b a).n = (Tot.join a b).n := by rw [join_n, join_n, Int.add_comm]
  have hcm : a = b → Tot.join a b = Tot.join b a := fun h => by subst h; rfl
  obtain ⟨J, hJ⟩ : ∃ J, Tot.join a b = J := ⟨_, rfl⟩
  obtain ⟨K, hK⟩ : ∃ J, Tot.join b a = J := ⟨_, rfl⟩
  obtain ⟨S, hS⟩ : ∃ S, a.w.add b.w = S := ⟨_, rfl⟩
  obtain ⟨ok, hok⟩ : ∃ ok, a.w.addOk b.w = ok := ⟨_, rfl⟩
  rw [hJ] at c1 hjw hjn hkn hcm
  rw [hK] at c2 hkw hkn hcm
  rw [hS] at c3 hjw hkw
  rw [hok] at c3
  have hjl := J.h.len
  have hkl := K.h.len
  unfold Tot.v at c1 c2
  have C1 := Lib.hid c1
  have C2 := Lib.hid c2
  have C3 := Lib.hid c3
  have e1 : weq J.w.n S.n = true := Wd.eq_of (by rw [hjw])
  have e2 : weq K.w.n S.n = true := Wd.eq_of (by rw [hkw])
  have HJN := Lib.hid hjn
  have HKN := Lib.hid hkn
  have HCM := Lib.hid hcm
  clear c1 c2 c3 hjw hkw hjn hkn hcm hJ hK hS hok
  unfold Tot.v
  go_enter Try.func4, Try.ntmps4
  go_wp2_with (go_at_call 9; refine stop_of ?_)
  unfold Stop
  refine (awake_w _).mono ?_
  rintro e X ⟨rfl, hg⟩
  have r0 : X.rowAt w.heap.size = ta a.h.l a.w.n a.n := by rw [Grew.rowAt hg _ (by simp; omega)]; simp [go_sem]
  have r1 : X.rowAt (w.heap.size + 1) = ta b.h.l b.w.n b.n := by rw [Grew.rowAt hg _ (by simp)]; simp [go_sem]
  have z1 : w.heap.size + 1 < X.heap.size := by have := hg.size; simp at this; omega
  have z0 : w.heap.size < X.heap.size := Nat.lt_of_succ_lt z1
  have GX := Lib.hid ((show Grew w _ from (by repeat (first | with_reducible exact Grew.refl _ | with_reducible apply Grew.alloc | with_reducible apply Grew.grow | with_reducible apply Grew.drew | with_reducible apply Grew.drewN))).trans hg)
  clear hg
  go_wp2_with (first | (go_at_call 20; refine (C1.out _).mono ?_; rintro e X1 ⟨rfl, hg⟩; have r0' := (Grew.rowAt hg _ z0).trans r0; have r1' := (Grew.rowAt hg _ z1).trans r1; have z1' := Nat.lt_of_lt_of_le z1 hg.size; have z0' := Nat.lt_of_succ_lt z1'; have GX1 := Lib.hid (GX.out.trans hg); clear hg r0 r1 z0 z1 GX C1) | (go_at_call 20; refine stop_of ?_))
  unfold Stop
  refine (C2.out _).mono ?_
  rintro e X2 ⟨rfl, hg⟩
  have gg : Grew X1 X2 := (show Grew X1 _ from (by repeat (first | with_reducible exact Grew.refl _ | with_reducible apply Grew.alloc | with_reducible apply Grew.grow | with_reducible apply Grew.drew | with_reducible apply Grew.drewN))).trans hg
  have q0 := (Grew.rowAt gg _ z0').trans r0'
  have q1 := (Grew.rowAt gg _ z1').trans r1'
  have q6 : X2.rowAt X1.heap.size = ta J.h.l J.w.n J.n := by rw [Grew.rowAt hg _ (by simp)]; simp [go_sem]
  have y6 : X1.heap.size < X2.heap.size := by have := hg.size; simp at this; omega
  have y1 := Nat.lt_of_lt_of_le z1' gg.size
  have y0 := Nat.lt_of_succ_lt y1
  have GX2 := Lib.hid (GX1.out.trans gg)
  clear hg gg r0' r1' z0' z1' GX1 C2
  go_wp2_with (go_at_call 24; refine stop_of ?_)
  unfold Stop
  refine (C3.out _).mono ?_
  rintro e X3 ⟨rfl, hg⟩
  have gg : Grew X2 X3 := (show Grew X2 _ from (by repeat (first | with_reducible exact Grew.refl _ | with_reducible apply Grew.alloc | with_reducible apply Grew.grow | with_reducible apply Grew.drew | with_reducible apply Grew.drewN))).trans hg
  have p0 := (Grew.rowAt gg _ y0).trans q0
  have p1 := (Grew.rowAt gg _ y1).trans q1
  have p6 := (Grew.rowAt gg _ y6).trans q6
  have p7 : X3.rowAt X2.heap.size = ta K.h.l K.w.n K.n := by rw [Grew.rowAt hg _ (by simp)]; simp [go_sem]
  have x7 : X2.heap.size < X3.heap.size := by have := hg.size; simp at this; omega
  have x6 := Nat.lt_of_lt_of_le y6 gg.size
  have x1 := Nat.lt_of_lt_of_le y1 gg.size
  have x0 := Nat.lt_of_succ_lt x1
  have GX3 := Lib.hid (GX2.out.trans gg)
  have k0 : X3.cell? ⟨w.heap.size, 36, none⟩ = some (.int .i64 a.n) := by rw [cell_rowAt, p0]; exact ta_n _ _ _ hal
  have k1 : X3.cell? ⟨w.heap.size + 1, 36, none⟩ = some (.int .i64 b.n) := by rw [cell_rowAt, p1]; exact ta_n _ _ _ hbl
  have k6 : X3.cell? ⟨X1.heap.size, 36, none⟩ = some (.int .i64 (wrap64 (a.n + b.n))) := by rw [cell_rowAt, p6, ta_n _ _ _ hjl, HJN.out]
  have k7 : X3.cell? ⟨X2.heap.size, 36, none⟩ = some (.int .i64 (wrap64 (a.n + b.n))) := by rw [cell_rowAt, p7, ta_n _ _ _ hkl, HKN.out, HJN.out]
  clear hg gg q0 q1 q6 y6 y1 y0 GX2 C3
  cases hab : Tot.eq a b
  · go_wp2
    go_ret
    exact ⟨rfl, GX3.out.trans (by repeat (first | with_reducible exact Grew.refl _ | with_reducible apply Grew.alloc | with_reducible apply Grew.grow | with_reducible apply Grew.drew | with_reducible apply Grew.drewN))⟩
  · have e3 : Tot.eq J K = true := (Tot.eq_iff J K).2 (HCM.out ((Tot.eq_iff a b).1 hab))
    go_wp2
    go_ret
    exact ⟨rfl, GX3.out.trans (by repeat (first | with_reducible exact Grew.refl _ | with_reducible apply Grew.alloc | with_reducible apply Grew.grow | with_reducible apply Grew.drew | with_reducible apply Grew.drewN))⟩
end Go.Proofs.Ytnhcamklammcdaa
/- The walks of MmrOne and MmrWork. -/
namespace Go.Proofs.Ytnhcamklammcdaa
set_option linter.unusedVariables false
set_option linter.unusedSimpArgs false
open Go.RowKit
set_option maxRecDepth 100000
theorem app_nil (x : Tot) : appT [] x = [x] := by
  unfold appT
  rw [show ([] ++ [x] : List Tot).reverse = [x] from rfl, mergeR_one _ (by simp)]; rfl
theorem chk_one (x y : Tot) (hx : x.n = 1) (hy : y.n = 1) : chkO x 0 y [] = if Tot.eq y x = true then some Wd.zero else none := by
  unfold chkO
  rw [hx, show (1 : Int).toNat = 1 from rfl, show (0 : Int).toNat = 0 from rfl]
  rw [if_pos ⟨by unfold chkIn; rw [hx, hy]; rfl, by unfold stps; rw [stpF_one _ _ _ _ (by omega)]; rfl⟩]
  unfold stps
  rw [stpF_one _ _ _ _ (by omega)]
  rfl
theorem leaf_eq (h : Idb) (a b : Wd) : Tot.eq (Tot.leaf h a) (Tot.leaf h b) = weq b.n a.n := by
  show (ieq h.l h.l && weq a.n b.n && decide ((1 : Int) = 1)) = weq b.n a.n
  rw [show ieq h.l h.l = true from decide_eq_true rfl]
  unfold weq
  simp [eq_comm]
set_option maxHeartbeats 6400000 in
theorem mmrOne_walk (id : Idb) (a b : Wd) (w : World) : Calls Try.prog 7 #[.agg (iv id.l), .agg (wv a.n), .agg (wv b.n)] w fun e w' => e = .returned (.bool true) ∧ Grew w w' := by
  have hil := id.len
  have hal := a.lt
  have hbl := b.lt
  have c1 := fun W => leaf_w id a W
  have c2 := fun W => leaf_w id b W
  have k1 := chk_one (Tot.leaf id a) (Tot.leaf id a) rfl rfl
  have k2 := chk_one (Tot.leaf id a) (Tot.leaf id b) rfl rfl
  rw [(Tot.eq_iff _ _).2 rfl, if_pos rfl] at k1
  rw [leaf_eq] at k2
  obtain ⟨X, hX⟩ : ∃ X, Tot.leaf id a = X := ⟨_, rfl⟩
  obtain ⟨Y, hY⟩ : ∃ X, Tot.leaf id b = X := ⟨_, rfl⟩
  rw [hX] at c1 k1 k2
  rw [hY] at c2 k2
  have hxl := X.h.len
  have hyl := Y.h.len
  have c3 := fun W => append_w [] X (.slice none 0 0) W (.inr ⟨_, _, rfl, rfl⟩) (by simp)
  have c4 := fun W => check_w X 0 X [] (.slice none 0 0) W (.inr ⟨_, _, rfl, rfl⟩) (by simp)
  have c5 := fun W => check_w X 0 Y [] (.slice none 0 0) W (.inr ⟨_, _, rfl, rfl⟩) (by simp)
  have c6 := fun W v (h : ShowsT W v [X]) => root_w [X] v W (by simp) h
  have c7 : ∀ W, Calls Try.prog 27 #[.int .u64 0] W fun e w' => e = .returned (.agg (wv 0)) ∧ Grew W w' := fun W => wof_w 0 (by omega) W
  rw [app_nil] at c3
  rw [k1, show chkV (some Wd.zero) = .tuple #[.agg (wv 0), .bool true] from rfl] at c4
  have k3 : chkV (chkO X 0 Y []) = .tuple #[.agg (wv 0), .bool (weq a.n b.n)] := by
    rw [k2]
    cases weq a.n b.n <;> rfl
  rw [k3] at c5
  rw [show peakL [X] = X from rfl] at c6
  unfold Tot.v at c1 c2 c6
  have C1 := Lib.hid c1
  have C2 := Lib.hid c2
  have C3 := Lib.hid c3
  have C4 := Lib.hid c4
  have C5 := Lib.hid c5
  have C6 := Lib.hid c6
  have C7 := Lib.hid c7
  have e1 : weq 0 0 = true := Wd.eq_of rfl
  have e2 : Tot.eq X X = true := (Tot.eq_iff X X).2 rfl
  obtain ⟨q, hq⟩ : ∃ q, weq a.n b.n = q := ⟨_, rfl⟩
  rw [hq] at C5
  have e3 : (q == q) = true := by cases q <;> rfl
  clear c1 c2 c3 c4 c5 c6 c7 k1 k2 k3 hX hY
  go_enter Try.func7, Try.ntmps7
  go_wp2_with (go_at_call 9; refine stop_of ?_)
  unfold Stop
  refine (awake_w _).mono ?_
  rintro e X1 ⟨rfl, hg⟩
  have r0 : X1.rowAt w.heap.size = iv id.l := by rw [Grew.rowAt hg _ (by simp; omega)]; simp [go_sem]
  have r1 : X1.rowAt (w.heap.size + 1) = wv a.n := by rw [Grew.rowAt hg _ (by simp)]; simp [go_sem]
  have r2 : X1.rowAt (w.heap.size + 1 + 1) = wv b.n := by rw [Grew.rowAt hg _ (by simp)]; simp [go_sem]
  have z2 : w.heap.size + 1 + 1 < X1.heap.size := by have := hg.size; simp at this; omega
  have z1 := Nat.lt_of_succ_lt z2
  have z0 := Nat.lt_of_succ_lt z1
  have GX := Lib.hid ((show Grew w _ from (by repeat (first | with_reducible exact Grew.refl _ | with_reducible apply Grew.alloc | with_reducible apply Grew.grow | with_reducible apply Grew.drew | with_reducible apply Grew.drewN))).trans hg)
  clear hg
  go_wp2_with (first | (go_at_call 22; refine (C1.out _).mono ?_; rintro e w' ⟨rfl, δ, rfl⟩) | (go_at_call 11; refine stop_of ?_))
  unfold Stop
  refine (C3.out _).mono ?_
  rintro e X2 ⟨v9, rfl, ho, hg⟩
  have gg : Grew X1 X2 := (show Grew X1 _ from (by repeat (first | with_reducible exact Grew.refl _ | with_reducible apply Grew.alloc | with_reducible apply Grew.grow | with_reducible apply Grew.drew | with_reducible apply Grew.drewN))).trans hg
  have q0 := (Grew.rowAt gg _ z0).trans r0
  have q1 := (Grew.rowAt gg _ z1).trans r1
  have q2 := (Grew.rowAt gg _ z2).trans r2
  have q8 : X2.rowAt (X1.heap.size + δ.n) = ta X.h.l X.w.n X.n := by rw [Grew.rowAt hg _ (by simp)]; simp [go_sem]
  have y8 : X1.heap.size + δ.n < X2.heap.size := by have := hg.size; simp at this; omega
  obtain ⟨b8, hb8⟩ : ∃ b8, X1.heap.size + δ.n = b8 := ⟨_, rfl⟩
  rw [hb8] at q8 y8 ⊢
  have y2 := Nat.lt_of_lt_of_le z2 gg.size
  have y1 := Nat.lt_of_succ_lt y2
  have y0 := Nat.lt_of_succ_lt y1
  have GX2 := Lib.hid (GX.out.trans gg)
  obtain ⟨g9, c9, rfl, -, hg9, hc9⟩ := ho.form.resolve_left (by rintro ⟨_, h⟩; cases h)
  have HO := Lib.hid ho
  simp only [List.length_cons, List.length_nil, Nat.zero_add] at HO ⊢
  clear hg gg ho hb8 r0 r1 r2 z0 z1 z2 GX C1 C3
  go_wp2_with (go_at_call 15; refine stop_of ?_)
  unfold Stop
  refine (C4.out _).mono ?_
  rintro e X3 ⟨rfl, hg⟩
  have p0 := (Grew.rowAt hg _ y0).trans q0
  have p1 := (Grew.rowAt hg _ y1).trans q1
  have p2 := (Grew.rowAt hg _ y2).trans q2
  have p8 := (Grew.rowAt hg _ y8).trans q8
  have x8 := Nat.lt_of_lt_of_le y8 hg.size
  have x2 := Nat.lt_of_lt_of_le y2 hg.size
  have x1 := Nat.lt_of_succ_lt x2
  have x0 := Nat.lt_of_succ_lt x1
  have GX3 := Lib.hid (GX2.out.trans hg)
  have HO3 := Lib.hid (HO.out.grew hg)
  clear hg q0 q1 q2 q8 y8 y2 y1 y0 GX2 HO C4 hg9
  go_wp2_with (go_at_call 22; refine stop_of ?_)
  unfold Stop
  refine (C2.out _).mono ?_
  rintro e X5 ⟨rfl, hg⟩
  have gg : Grew X3 X5 := (show Grew X3 _ from (by repeat (first | with_reducible exact Grew.refl _ | with_reducible apply Grew.alloc | with_reducible apply Grew.grow | with_reducible apply Grew.drew | with_reducible apply Grew.drewN))).trans hg
  have s10 : X5.rowAt X3.heap.size = wv 0 := by rw [Grew.rowAt hg _ (by simp)]; simp [go_sem]
  have t10 : X3.heap.size < X5.heap.size := by have := hg.size; simp at this; omega
  replace p1 := (Grew.rowAt gg _ x1).trans p1
  replace p2 := (Grew.rowAt gg _ x2).trans p2
  replace p8 := (Grew.rowAt gg _ x8).trans p8
  replace x8 := Nat.lt_of_lt_of_le x8 gg.size
  replace x2 := Nat.lt_of_lt_of_le x2 gg.size
  replace x1 := Nat.lt_of_succ_lt x2
  replace GX3 := Lib.hid (GX3.out.trans gg)
  replace HO3 := Lib.hid (HO3.out.grew gg)
  clear hg gg p0 x0
  go_wp2_with (go_at_call 15; refine stop_of ?_)
  unfold Stop
  refine (C5.out _).mono ?_
  rintro e X4 ⟨rfl, hg⟩
  have gg : Grew X5 X4 := (show Grew X5 _ from (by repeat (first | with_reducible exact Grew.refl _ | with_reducible apply Grew.alloc | with_reducible apply Grew.grow | with_reducible apply Grew.drew | with_reducible apply Grew.drewN))).trans hg
  have g10 := (Grew.rowAt gg _ t10).trans s10
  have h10 := Nat.lt_of_lt_of_le t10 gg.size
  have o1 := (Grew.rowAt gg _ x1).trans p1
  have o2 := (Grew.rowAt gg _ x2).trans p2
  have o8 := (Grew.rowAt gg _ x8).trans p8
  have n8 := Nat.lt_of_lt_of_le x8 gg.size
  have n2 := Nat.lt_of_lt_of_le x2 gg.size
  have n1 := Nat.lt_of_succ_lt n2
  have GX4 := Lib.hid (GX3.out.trans gg)
  have HO4 := Lib.hid (HO3.out.grew gg)
  have hr9 : X4.rangeAt g9 0 X.cs := by
    have := OwnE.range Tot.cs_len HO4.out 0 X rfl
    rwa [Nat.zero_mul] at this
  clear hg gg p1 p2 p8 x8 x2 x1 GX3 HO3 C2 C5 s10 t10
  go_wp2
  refine code_abs ?_
  intro Z hZ
  have gZ : Grew X4 Z := by rw [hZ]; exact (by repeat (first | with_reducible exact Grew.refl _ | with_reducible apply Grew.alloc | with_reducible apply Grew.grow | with_reducible apply Grew.drew | with_reducible apply Grew.drewN))
  replace g10 := (Grew.rowAt gZ _ h10).trans g10
  replace o1 := (Grew.rowAt gZ _ n1).trans o1
  replace o2 := (Grew.rowAt gZ _ n2).trans o2
  replace o8 := (Grew.rowAt gZ _ n8).trans o8
  replace h10 := Nat.lt_of_lt_of_le h10 gZ.size
  replace n8 := Nat.lt_of_lt_of_le n8 gZ.size
  replace n2 := Nat.lt_of_lt_of_le n2 gZ.size
  replace n1 := Nat.lt_of_succ_lt n2
  have ld : ∀ δ, (rowLoad 29 (.pointer (some ⟨g9, 0, none⟩))).run Try.prog (Z.grow δ) = .ok (.value (.agg (ta X.h.l X.w.n X.n))) (Z.grow δ) := load_totg (rangeAt_grew hr9 gZ)
  have HO5 := Lib.hid (OwnE.shows Tot.cs_len (HO4.out.grew gZ))
  have GZ := Lib.hid (GX4.out.trans gZ)
  have g9Z : g9 < Z.heap.size := (HO4.out.grew gZ).block g9 rfl |>.2
  have hwq : weq a.n b.n = q := hq
  clear hZ gZ hr9 HO4 GX4 hq
  first | refine wp_region_pure_lit_g (by kernel_rfl) (by kernel_rfl) ?_ | refine wp_region_pure_lit (by kernel_rfl) (by kernel_rfl) ?_
  repeat (go_big_quiet_step ((first | (go_at_call 18; exact Calls.pure_of (C6.out _ _ (HO5.out.grew (by repeat (first | with_reducible exact Grew.refl _ | with_reducible apply Grew.alloc | with_reducible apply Grew.grow | with_reducible apply Grew.drew | with_reducible apply Grew.drewN))))) | (go_at_call 27; exact Calls.pure_of (C7.out _)))))
  refine wpQuiet_nil ?_
  intro _ hw'
  obtain ⟨δ1, hw''⟩ := hw'
  subst hw''
  go_wp2
  go_ret
  exact ⟨rfl, GZ.out.trans (by repeat (first | with_reducible exact Grew.refl _ | with_reducible apply Grew.alloc | with_reducible apply Grew.grow | with_reducible apply Grew.drew | with_reducible apply Grew.drewN))⟩
end Go.Proofs.Ytnhcamklammcdaa
/- The walk of MmrWork. -/
namespace Go.Proofs.Ytnhcamklammcdaa
set_option linter.unusedVariables false
set_option linter.unusedSimpArgs false
open Go.RowKit
set_option maxRecDepth 100000
/-- The numbers, one by one. -/
def nsum (n : Int) (ys : List Tot) : Int := ys.foldl (fun n y => wrap64 (n + y.n)) n
theorem nsum_take (n : Int) (ys : List Tot) (k : Nat) (y : Tot) (hy : ys[k]? = some y) : nsum n (ys.take (k + 1)) = wrap64 (nsum n (ys.take k) + y.n) := by
  rw [List.take_add_one, hy]; simp [nsum]
theorem climb_work : ∀ (ss : List Stp) (ys : List Tot) (x : Tot) (a : Wd) (l : Nat) (x' : Tot) (a' : Wd), ss.length = ys.length → a.n + l ≤ x.w.n → climbT ss ys (some (x, a)) = some (x', a') → a'.n + l ≤ x'.w.n ∧ x'.n = nsum x.n ys
  | [], [], x, a, l, x', a', _, h, he => by
    simp only [climbT, Option.some.injEq, Prod.mk.injEq] at he
    obtain ⟨rfl, rfl⟩ := he
    exact ⟨h, rfl⟩
  | s :: ss, y :: ys, x, a, l, x', a', hl, h, he => by
    simp only [climbT] at he
    cases hc : climb1 s y (x, a) with
    | none => rw [hc, climbT_none] at he; cases he
    | some p =>
      obtain ⟨x2, a2⟩ := p
      rw [hc] at he
      unfold climb1 at hc
      split at hc
      · rename_i hok
        obtain ⟨hok, _⟩ := hok
        have hw : x.w.n + y.w.n < B256 := of_decide_eq_true hok
        have key : a2.n + l ≤ x2.w.n ∧ x2.n = wrap64 (x.n + y.n) := by
          split at hc
          · simp only [Option.some.injEq, Prod.mk.injEq] at hc
            obtain ⟨rfl, rfl⟩ := hc
            refine ⟨?_, rfl⟩
            rw [join_wn, Wd.add_n, Nat.mod_eq_of_lt hw]; omega
          · simp only [Option.some.injEq, Prod.mk.injEq] at hc
            obtain ⟨rfl, rfl⟩ := hc
            refine ⟨?_, by rw [join_n, Int.add_comm]⟩
            rw [join_wn, Wd.add_n, Wd.add_n, Nat.mod_eq_of_lt (show a.n + y.w.n < B256 by omega), Nat.mod_eq_of_lt (show y.w.n + x.w.n < B256 by omega)]; omega
        obtain ⟨h1, h2⟩ := climb_work ss ys x2 a2 l x' a' (by simpa using hl) key.1 he
        exact ⟨h1, by rw [h2, key.2]; rfl⟩
      · cases hc
  | [], _ :: _, _, _, _, _, _, h, _, _ => by simp at h
  | _ :: _, [], _, _, _, _, _, h, _, _ => by simp at h
theorem chk_work (root : Tot) (i : Int) (leaf : Tot) (path : List Tot) (a : Wd) (h : chkO root i leaf path = some a) :
    a.addOk leaf.w = true ∧ (a.add leaf.w).n ≤ root.w.n ∧ nsum leaf.n path = root.n ∧ 0 ≤ i ∧ i < root.n := by
  unfold chkO at h
  split at h
  · rename_i hc
    obtain ⟨hin, hl⟩ := hc
    have hin := of_decide_eq_true hin
    cases hcl : climbT (stps root.n.toNat i.toNat) path (some (leaf, Wd.zero)) with
    | none => rw [hcl] at h; cases h
    | some p =>
      obtain ⟨x', a'⟩ := p
      rw [hcl] at h
      simp only [Option.bind_some] at h
      split at h
      · rename_i heq
        simp only [Option.some.injEq] at h
        subst h
        have hx := (Tot.eq_iff _ _).1 heq
        subst hx
        obtain ⟨h1, h2⟩ := climb_work _ _ leaf Wd.zero leaf.w.n x' a' hl (by show 0 + _ ≤ _; omega) hcl
        have hlt := x'.w.lt
        have hok : a'.addOk leaf.w = true := decide_eq_true (by omega)
        exact ⟨hok, by rw [Wd.add_ok hok]; exact h1, h2.symm, hin.2.2.1, hin.2.2.2.1⟩
      · cases h
  · cases h
set_option maxHeartbeats 6400000 in
theorem mmrWork_walk (root : Tot) (i : Int) (leaf : Tot) (q : Option Addr) (c : Nat) (path : List Tot) (hm : path.length ≤ maxLen) (w : World) (hs : ShowsT w (.slice q path.length c) path) :
    Calls Try.prog 8 #[root.v, .int .i64 i, leaf.v, .slice q path.length c] w fun e w' => e = .returned (.bool true) ∧ Grew w w' := by
  have hrl := root.h.len
  have hll := leaf.h.len
  have HS := Lib.hid hs
  clear hs hm
  unfold Tot.v
  by_cases h12 : 12 < path.length
  · have h12' : (12 : Int) < (path.length : Int) := by omega
    go_enter Try.func8, Try.ntmps8
    go_wp2_with (go_at_call 9; refine (awake_w _).mono ?_; rintro e w' ⟨rfl, δ, rfl⟩)
    go_ret
    exact ⟨rfl, (by repeat (first | with_reducible exact Grew.refl _ | with_reducible apply Grew.alloc | with_reducible apply Grew.grow | with_reducible apply Grew.drew | with_reducible apply Grew.drewN))⟩
  have h12' : (path.length : Int) ≤ 12 := by omega
  have CK := Lib.hid (fun W (g : Grew w W) => check_w root i leaf path (.slice q path.length c) W (HS.out.grew g) (by omega))
  have hwk := chk_work root i leaf path
  obtain ⟨R, hR⟩ : ∃ R, chkO root i leaf path = R := ⟨_, rfl⟩
  rw [hR] at CK hwk
  obtain ⟨N, hN⟩ : ∃ N, path.length = N := ⟨_, rfl⟩
  have HN := Lib.hid hN
  rw [hN] at CK HS h12' ⊢
  have HWK := Lib.hid hwk
  clear hwk hR hN h12
  go_enter Try.func8, Try.ntmps8
  go_wp2_with (go_at_call 9; refine stop_of ?_)
  unfold Stop
  refine (awake_w _).mono ?_
  rintro e X ⟨rfl, hg⟩
  have r0 : X.rowAt w.heap.size = ta root.h.l root.w.n root.n := by rw [Grew.rowAt hg _ (by simp; omega)]; simp [go_sem]
  have r1 : X.rowAt (w.heap.size + 1) = ta leaf.h.l leaf.w.n leaf.n := by rw [Grew.rowAt hg _ (by simp)]; simp [go_sem]
  have z1 : w.heap.size + 1 < X.heap.size := by have := hg.size; simp at this; omega
  have z0 : w.heap.size < X.heap.size := Nat.lt_of_succ_lt z1
  have GX := Lib.hid ((show Grew w _ from (by repeat (first | with_reducible exact Grew.refl _ | with_reducible apply Grew.alloc | with_reducible apply Grew.grow | with_reducible apply Grew.drew | with_reducible apply Grew.drewN))).trans hg)
  clear hg
  go_wp2_with (go_at_call 15; refine stop_of ?_)
  unfold Stop
  refine (CK.out _ GX.out).mono ?_
  rintro e X1 ⟨rfl, hg⟩
  replace r0 := (Grew.rowAt hg _ z0).trans r0
  replace r1 := (Grew.rowAt hg _ z1).trans r1
  replace z1 := Nat.lt_of_lt_of_le z1 hg.size
  replace z0 : w.heap.size < X1.heap.size := Nat.lt_of_succ_lt z1
  replace GX := Lib.hid (GX.out.trans hg)
  clear hg CK
  cases R with
  | none =>
    rw [show chkV none = .tuple #[.agg (wv 0), .bool false] from rfl]
    have e0 : weq 0 0 = true := Wd.eq_of rfl
    go_wp2
    go_ret
    exact ⟨rfl, GX.out.trans (by repeat (first | with_reducible exact Grew.refl _ | with_reducible apply Grew.alloc | with_reducible apply Grew.grow | with_reducible apply Grew.drew | with_reducible apply Grew.drewN))⟩
  | some a =>
    obtain ⟨hok, hle, hns, hi0, hi1⟩ := HWK.out a rfl
    rw [show chkV (some a) = .tuple #[.agg (wv a.n), .bool true] from rfl]
    have c1 := fun W => wadd_w a leaf.w W
    have c2 := fun W => wcmp_w (a.add leaf.w) root.w W
    have hcm : decide ((a.add leaf.w).cmp root.w ≤ 0) = true := by rw [Wd.cmp_le]; exact decide_eq_true hle
    rw [hok] at c1
    have hal := a.lt
    obtain ⟨S, hS⟩ : ∃ S, a.add leaf.w = S := ⟨_, rfl⟩
    rw [hS] at c1 c2 hcm
    obtain ⟨cp, hcp⟩ : ∃ cp, S.cmp root.w = cp := ⟨_, rfl⟩
    rw [hcp] at c2 hcm
    have hcm2 : cp ≤ 0 := of_decide_eq_true hcm
    have C1 := Lib.hid c1
    have C2 := Lib.hid c2
    have HNS := Lib.hid hns
    have k1 : X1.cell? ⟨w.heap.size + 1, 36, none⟩ = some (.int .i64 leaf.n) := by rw [cell_rowAt, r1]; exact ta_n _ _ _ hll
    clear c1 c2 hle hns hS hcp hok HWK
    go_wp2_with (go_at_call 24; refine stop_of ?_)
    unfold Stop
    refine (C1.out _).mono ?_
    rintro e X2 ⟨rfl, hg⟩
    have gg : Grew X1 X2 := (show Grew X1 _ from (by repeat (first | with_reducible exact Grew.refl _ | with_reducible apply Grew.alloc | with_reducible apply Grew.grow | with_reducible apply Grew.drew | with_reducible apply Grew.drewN))).trans hg
    replace r0 := (Grew.rowAt gg _ z0).trans r0
    replace r1 := (Grew.rowAt gg _ z1).trans r1
    replace z1 := Nat.lt_of_lt_of_le z1 gg.size
    replace z0 : w.heap.size < X2.heap.size := Nat.lt_of_succ_lt z1
    replace GX := Lib.hid (GX.out.trans gg)
    have k1' := gg.cell k1
    clear hg gg k1 C1
    go_wp2
    refine code_abs ?_
    intro V hV
    have gg : Grew X2 V := by rw [hV]; exact (by repeat (first | with_reducible exact Grew.refl _ | with_reducible apply Grew.alloc | with_reducible apply Grew.grow | with_reducible apply Grew.drew | with_reducible apply Grew.drewN))
    have r12 : V.rowAt X2.heap.size = wv S.n := by rw [hV]; simp [go_sem]
    have z12 : X2.heap.size < V.heap.size := by rw [hV]; simp
    replace r0 := (Grew.rowAt gg _ z0).trans r0
    replace z1 := Nat.lt_of_lt_of_le z1 gg.size
    replace z0 : w.heap.size < V.heap.size := Nat.lt_of_succ_lt z1
    replace GX := Lib.hid (GX.out.trans gg)
    clear hV gg r1 k1'
    go_loopw [15, 14] (fun n m wr => ∃ k : Nat, k ≤ N ∧ n = .int .i64 k ∧ m = .int .i64 (nsum leaf.n (path.take k)) ∧ wr = V) (fun n _ _ => N - (intOf n).toNat)
    case atStart => exact ⟨0, by omega, rfl, rfl, rfl⟩
    case round =>
      obtain ⟨k, hk, rfl, rfl, rfl⟩ := hrel
      by_cases hn : k < N
      · have hlt : (k : Int) < (N : Int) := by omega
        obtain ⟨y, hy⟩ : ∃ y, path[k]? = some y := ⟨_, List.getElem?_eq_getElem (by rw [HN.out]; exact hn)⟩
        have hvv := HS.out
        rw [← HN.out] at hvv
        obtain ⟨b, o, rfl, _, hcc, hb, hat⟩ := showsT_some hvv (by rw [HN.out]; omega)
        have cn := range_n (rangeAt_grew (hat k y hy) GX.out)
        have hst := nsum_take leaf.n path k y hy
        have HST := Lib.hid hst
        have HK := Lib.hid hn
        obtain ⟨m, hmm⟩ : ∃ m, nsum leaf.n (path.take k) = m := ⟨_, rfl⟩
        rw [hmm] at HST ⊢
        clear hvv hcc hb hat hst hy hn hmm hk
        go_wp2
        exact ⟨⟨k + 1, by have := HK.out; omega, by go_num, by rw [HST.out], trivial⟩, by have := HK.out; simp only [intOf]; omega⟩
      · obtain rfl : k = N := by omega
        have hge : ¬ ((k : Int) < (k : Int)) := by omega
        have hall : path.take k = path := List.take_of_length_le (by rw [HN.out]; exact Nat.le_refl _)
        rw [hall, HNS.out]
        have k0 : wr.cell? ⟨w.heap.size, 36, none⟩ = some (.int .i64 root.n) := by rw [cell_rowAt, r0]; exact ta_n _ _ _ hrl
        have e1 : (root.n == root.n) = true := by simp
        clear hk hn hall HNS
        go_wp2_with (go_at_call 29; refine (C2.out _).mono ?_; rintro e w' ⟨rfl, hg⟩; have k0' := hg.cell k0; have GX3 := Lib.hid (GX.out.trans hg); clear hg)
        go_ret
        exact ⟨rfl, GX3.out.trans (by repeat (first | with_reducible exact Grew.refl _ | with_reducible apply Grew.alloc | with_reducible apply Grew.grow | with_reducible apply Grew.drew | with_reducible apply Grew.drewN))⟩
end Go.Proofs.Ytnhcamklammcdaa
namespace Go.Proofs.Ytnhcamklammcdaa.mmrWork
set_option linter.unusedVariables false
set_option linter.unusedSimpArgs false
open Go.ChangeShapes Go.WideShapes Go.ChangeAt Go.RowKit

set_option maxRecDepth 100000 in
theorem lifted (os : Os) (started : os.Started) (H : Type) (enc : TypeId × Value → H) :
    ReturnsInHanded {} Try.checked os 8 .any (Rows.mmrWorkSpec.pre6 enc Try.prog Try.f8 Rows.mmrWorkRow.domain false) (Rows.mmrWorkSpec.post enc Try.prog Try.f8 false true false false) := by
  refine returnsInHanded_of_change (C := Try.checked) own started (by kernel_rfl) Try.func8
    (ChangeSpec.witness6 (enc := enc) (C := Try.checked) false ⟨#[], #[.agg (ta id0 0 0), .int .i64 0, .agg (ta id0 0 0), .slice none 0 0], []⟩ 8 (by kernel_rfl) (by kernel_rfl) (by kernel_rfl) (by kernel_rfl)) ?_
  intro W base args ds gs before hval0 hW _ _
  have hval : ∀ (j : Nat) t v, Try.f8.params[j]? = some t → args[j]? = some v → Value.okWide Try.prog W .any base t v := hval0
  have hW' := hW
  obtain ⟨p, q, hA0, hV, rfl, hfz, hnd⟩ := hW
  have hA : DataW.TrodAll enc Try.prog W 0 (fun _ => true) true Try.f8.params.toList args.toList ds p := hA0
  have hAk := hA
  rw [Try.params8] at hA hval
  obtain ⟨v0, vs0, d0, ds0, p0, q0, hargs0, rfl, rfl, h0, r0⟩ := trodAll_cons hA
  obtain ⟨v1, vs1, d1, ds1, p1, q1, hargs1, rfl, rfl, h1, r1⟩ := trodAll_cons r0
  obtain ⟨v2, vs2, d2, ds2, p2, q2, hargs2, rfl, rfl, h2, r2⟩ := trodAll_cons r1
  obtain ⟨v3, vs3, d3, ds3, p3, q3, hargs3, rfl, rfl, h3, r3⟩ := trodAll_cons r2
  obtain ⟨rfl, rfl, rfl⟩ := trodAll_nil r3
  subst hargs3
  subst hargs2
  subst hargs1
  obtain rfl : args = #[v0, v1, v2, v3] := by cases args; simp_all
  obtain ⟨rfl, rfl⟩ := trodVars_none hV
  obtain ⟨a0, rfl⟩ := open_total (hval 0 29 v0 rfl rfl) h0
  obtain ⟨a1, rfl, rfl, _, w1⟩ := open_int Try.underlying3 (hval 1 3 v1 rfl rfl) h1
  obtain ⟨a2, rfl⟩ := open_total (hval 2 29 v2 rfl rfl) h2
  obtain ⟨q3', n3', c3', rfl⟩ := okWide_slice Try.underlying22 (hval 3 22 v3 rfl rfl)
  obtain ⟨aq3, ac3, al3, ae3, am3, as3⟩ := open_tots h3 rfl
  rw [ae3]
  simp only [List.append_nil] at hW'
  refine (mmrWork_walk a0 a1 a2 aq3 ac3 al3 am3 W as3).mono fun e W' ⟨he, hg⟩ => ?_
  subst he
  rw [← ae3]
  exact ⟨_, rfl, post_of_stays hW' rfl (by simpa using hAk) (types_ok _ (by rw [Try.params8]; kernel_rfl)) rfl rfl (fun _ _ _ => (trodAll_cons_mk (shut_bool Try.underlying4 _) trodAll_mk0))
    hg (ok_one (by kernel_rfl) rfl (okWide_bool_mk Try.underlying4 _))⟩

theorem proved : Rows.MmrWorkSaid :=
  OpenClaim.holds_of_wide 8 Try.f8 rfl rfl rfl rfl rfl rfl rfl ⟨rfl, rfl, rfl, rfl, rfl⟩ rfl rfl rfl rfl rfl (by kernel_rfl) Try.func8 (by kernel_rfl)
    (of_decide_eq_true (by kernel_rfl)) (by unfold Func.isWrapper; first | (rw [if_pos (by decide +kernel)]; kernel_rfl) | (rw [if_neg (by decide +kernel)]; exact ⟨rfl, rfl⟩))
    (fun os started H enc _ => lifted os started H enc)
end Go.Proofs.Ytnhcamklammcdaa.mmrWork
