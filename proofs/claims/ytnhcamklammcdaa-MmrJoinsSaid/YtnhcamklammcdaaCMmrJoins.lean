/- 'stepladderlaw06.MmrJoins' answers true for every total, total, without panicking, and what it was handed reads as before. Conditions: none. -/
import Derived.Test.YtnhcamklammcdaaRows
import Derived.Test.YtnhcamklammcdaaM7
/- The walk of MmrJoins. -/
namespace Go.Proofs.Ytnhcamklammcdaa
set_option linter.unusedVariables false
set_option linter.unusedSimpArgs false
open Go.RowKit
set_option maxRecDepth 100000
theorem add_comm' (a b : Wd) : a.add b = b.add a := Wd.ext' (by rw [Wd.add_n, Wd.add_n, Nat.add_comm])
set_option maxHeartbeats 6400000 in
theorem mmrJoins_walk (a b : Tot) (w : World) : Calls Try.prog 4 #[a.v, b.v] w fun e w' => e = .returned (.bool true) ∧ Grew w w' := by
  have hal := a.h.len
  have hbl := b.h.len
  have c1 := fun W => join_w a b W
  have c2 := fun W => join_w b a W
  have c3 := fun W => wadd_w a.w b.w W
  have hjw : (Tot.join a b).w = a.w.add b.w := rfl
  have hkw : (Tot.join b a).w = a.w.add b.w := by rw [join_wn, add_comm']
  have hjn : (Tot.join a b).n = wrap64 (a.n + b.n) := rfl
  have hkn : (Tot.join b a).n = (Tot.join a b).n := by rw [join_n, join_n, Int.add_comm]
  have hcm : a = b → Tot.join a b = Tot.join b a := fun h => by subst h; rfl
  obtain ⟨J, hJ⟩ : ∃ J, Tot.join a b = J := ⟨_, rfl⟩
  obtain ⟨K, hK⟩ : ∃ J, Tot.join b a = J := ⟨_, rfl⟩
  obtain ⟨S, hS⟩ : ∃ S, a.w.add b.w = S := ⟨_, rfl⟩
  obtain ⟨ok, hok⟩ : ∃ ok, a.w.addOk b.w = ok := ⟨_, rfl⟩
  rw [hJ] at c1 hjw hjn hkn hcm
  rw [hK] at c2 hkw hkn hcm
  rw [hS] at c3 hjw hkw
  rw [hok] at c3
  have hjl := J.h.len
  have hkl := K.h.len
  unfold Tot.v at c1 c2
  have C1 := Lib.hid c1
  have C2 := Lib.hid c2
  have C3 := Lib.hid c3
  have e1 : weq J.w.n S.n = true := Wd.eq_of (by rw [hjw])
  have e2 : weq K.w.n S.n = true := Wd.eq_of (by rw [hkw])
  have HJN := Lib.hid hjn
  have HKN := Lib.hid hkn
  have HCM := Lib.hid hcm
  clear c1 c2 c3 hjw hkw hjn hkn hcm hJ hK hS hok
  unfold Tot.v
  go_enter Try.func4, Try.ntmps4
  go_wp2_with (go_at_call 9; refine stop_of ?_)
  unfold Stop
  refine (awake_w _).mono ?_
  rintro e X ⟨rfl, hg⟩
  have r0 : X.rowAt w.heap.size = ta a.h.l a.w.n a.n := by rw [Grew.rowAt hg _ (by simp; omega)]; simp [go_sem]
  have r1 : X.rowAt (w.heap.size + 1) = ta b.h.l b.w.n b.n := by rw [Grew.rowAt hg _ (by simp)]; simp [go_sem]
  have z1 : w.heap.size + 1 < X.heap.size := by have := hg.size; simp at this; omega
  have z0 : w.heap.size < X.heap.size := Nat.lt_of_succ_lt z1
  have GX := Lib.hid ((show Grew w _ from (by repeat (first | with_reducible exact Grew.refl _ | with_reducible apply Grew.alloc | with_reducible apply Grew.grow | with_reducible apply Grew.drew | with_reducible apply Grew.drewN))).trans hg)
  clear hg
  go_wp2_with (first | (go_at_call 20; refine (C1.out _).mono ?_; rintro e X1 ⟨rfl, hg⟩; have r0' := (Grew.rowAt hg _ z0).trans r0; have r1' := (Grew.rowAt hg _ z1).trans r1; have z1' := Nat.lt_of_lt_of_le z1 hg.size; have z0' := Nat.lt_of_succ_lt z1'; have GX1 := Lib.hid (GX.out.trans hg); clear hg r0 r1 z0 z1 GX C1) | (go_at_call 20; refine stop_of ?_))
  unfold Stop
  refine (C2.out _).mono ?_
  rintro e X2 ⟨rfl, hg⟩
  have gg : Grew X1 X2 := (show Grew X1 _ from (by repeat (first | with_reducible exact Grew.refl _ | with_reducible apply Grew.alloc | with_reducible apply Grew.grow | with_reducible apply Grew.drew | with_reducible apply Grew.drewN))).trans hg
  have q0 := (Grew.rowAt gg _ z0').trans r0'
  have q1 := (Grew.rowAt gg _ z1').trans r1'
  have q6 : X2.rowAt X1.heap.size = ta J.h.l J.w.n J.n := by rw [Grew.rowAt hg _ (by simp)]; simp [go_sem]
  have y6 : X1.heap.size < X2.heap.size := by have := hg.size; simp at this; omega
  have y1 := Nat.lt_of_lt_of_le z1' gg.size
  have y0 := Nat.lt_of_succ_lt y1
  have GX2 := Lib.hid (GX1.out.trans gg)
  clear hg gg r0' r1' z0' z1' GX1 C2
  go_wp2_with (go_at_call 24; refine stop_of ?_)
  unfold Stop
  refine (C3.out _).mono ?_
  rintro e X3 ⟨rfl, hg⟩
  have gg : Grew X2 X3 := (show Grew X2 _ from (by repeat (first | with_reducible exact Grew.refl _ | with_reducible apply Grew.alloc | with_reducible apply Grew.grow | with_reducible apply Grew.drew | with_reducible apply Grew.drewN))).trans hg
  have p0 := (Grew.rowAt gg _ y0).trans q0
  have p1 := (Grew.rowAt gg _ y1).trans q1
  have p6 := (Grew.rowAt gg _ y6).trans q6
  have p7 : X3.rowAt X2.heap.size = ta K.h.l K.w.n K.n := by rw [Grew.rowAt hg _ (by simp)]; simp [go_sem]
  have x7 : X2.heap.size < X3.heap.size := by have := hg.size; simp at this; omega
  have x6 := Nat.lt_of_lt_of_le y6 gg.size
  have x1 := Nat.lt_of_lt_of_le y1 gg.size
  have x0 := Nat.lt_of_succ_lt x1
  have GX3 := Lib.hid (GX2.out.trans gg)
  have k0 : X3.cell? ⟨w.heap.size, 36, none⟩ = some (.int .i64 a.n) := by rw [cell_rowAt, p0]; exact ta_n _ _ _ hal
  have k1 : X3.cell? ⟨w.heap.size + 1, 36, none⟩ = some (.int .i64 b.n) := by rw [cell_rowAt, p1]; exact ta_n _ _ _ hbl
  have k6 : X3.cell? ⟨X1.heap.size, 36, none⟩ = some (.int .i64 (wrap64 (a.n + b.n))) := by rw [cell_rowAt, p6, ta_n _ _ _ hjl, HJN.out]
  have k7 : X3.cell? ⟨X2.heap.size, 36, none⟩ = some (.int .i64 (wrap64 (a.n + b.n))) := by rw [cell_rowAt, p7, ta_n _ _ _ hkl, HKN.out, HJN.out]
  clear hg gg q0 q1 q6 y6 y1 y0 GX2 C3
  cases hab : Tot.eq a b
  · go_wp2
    go_ret
    exact ⟨rfl, GX3.out.trans (by repeat (first | with_reducible exact Grew.refl _ | with_reducible apply Grew.alloc | with_reducible apply Grew.grow | with_reducible apply Grew.drew | with_reducible apply Grew.drewN))⟩
  · have e3 : Tot.eq J K = true := (Tot.eq_iff J K).2 (HCM.out ((Tot.eq_iff a b).1 hab))
    go_wp2
    go_ret
    exact ⟨rfl, GX3.out.trans (by repeat (first | with_reducible exact Grew.refl _ | with_reducible apply Grew.alloc | with_reducible apply Grew.grow | with_reducible apply Grew.drew | with_reducible apply Grew.drewN))⟩
end Go.Proofs.Ytnhcamklammcdaa
namespace Go.Proofs.Ytnhcamklammcdaa.mmrJoins
set_option linter.unusedVariables false
set_option linter.unusedSimpArgs false
open Go.ChangeShapes Go.WideShapes Go.ChangeAt Go.RowKit

set_option maxRecDepth 100000 in
theorem lifted (os : Os) (started : os.Started) (H : Type) (enc : TypeId × Value → H) :
    ReturnsInHanded {} Try.checked os 4 .any (Rows.mmrJoinsSpec.pre6 enc Try.prog Try.f4 Rows.mmrJoinsRow.domain false) (Rows.mmrJoinsSpec.post enc Try.prog Try.f4 false true false false) := by
  refine returnsInHanded_of_change (C := Try.checked) own started (by kernel_rfl) Try.func4
    (ChangeSpec.witness6 (enc := enc) (C := Try.checked) false ⟨#[], #[.agg (ta id0 0 0), .agg (ta id0 0 0)], []⟩ 8 (by kernel_rfl) (by kernel_rfl) (by kernel_rfl) (by kernel_rfl)) ?_
  intro W base args ds gs before hval0 hW _ _
  have hval : ∀ (j : Nat) t v, Try.f4.params[j]? = some t → args[j]? = some v → Value.okWide Try.prog W .any base t v := hval0
  have hW' := hW
  obtain ⟨p, q, hA0, hV, rfl, hfz, hnd⟩ := hW
  have hA : DataW.TrodAll enc Try.prog W 0 (fun _ => true) true Try.f4.params.toList args.toList ds p := hA0
  have hAk := hA
  rw [Try.params4] at hA hval
  obtain ⟨v0, vs0, d0, ds0, p0, q0, hargs0, rfl, rfl, h0, r0⟩ := trodAll_cons hA
  obtain ⟨v1, vs1, d1, ds1, p1, q1, hargs1, rfl, rfl, h1, r1⟩ := trodAll_cons r0
  obtain ⟨rfl, rfl, rfl⟩ := trodAll_nil r1
  subst hargs1
  obtain rfl : args = #[v0, v1] := by cases args; simp_all
  obtain ⟨rfl, rfl⟩ := trodVars_none hV
  obtain ⟨a0, rfl⟩ := open_total (hval 0 29 v0 rfl rfl) h0
  obtain ⟨a1, rfl⟩ := open_total (hval 1 29 v1 rfl rfl) h1
  simp only [List.append_nil] at hW'
  refine (mmrJoins_walk a0 a1 W ).mono fun e W' ⟨he, hg⟩ => ?_
  subst he
  exact ⟨_, rfl, post_of_stays hW' rfl (by simpa using hAk) (types_ok _ (by rw [Try.params4]; kernel_rfl)) rfl rfl (fun _ _ _ => (trodAll_cons_mk (shut_bool Try.underlying4 _) trodAll_mk0))
    hg (ok_one (by kernel_rfl) rfl (okWide_bool_mk Try.underlying4 _))⟩

theorem proved : Rows.MmrJoinsSaid :=
  OpenClaim.holds_of_wide 4 Try.f4 rfl rfl rfl rfl rfl rfl rfl ⟨rfl, rfl, rfl, rfl, rfl⟩ rfl rfl rfl rfl rfl (by kernel_rfl) Try.func4 (by kernel_rfl)
    (of_decide_eq_true (by kernel_rfl)) (by unfold Func.isWrapper; first | (rw [if_pos (by decide +kernel)]; kernel_rfl) | (rw [if_neg (by decide +kernel)]; exact ⟨rfl, rfl⟩))
    (fun os started H enc _ => lifted os started H enc)
end Go.Proofs.Ytnhcamklammcdaa.mmrJoins
