/- 'stepladderlaw08.HeadLevels' answers true for every head, without panicking, and what it was handed reads as before. Conditions: none. -/
import Derived.Test.YtommbfgagalckaaRows
import Derived.Test.YtommbfgagalckaaM6
/- HeadLevels: the walk. -/
namespace Go.Proofs.Ytommbfgagalckaa
open Go.RowKit
set_option maxRecDepth 100000
set_option linter.unusedVariables false
set_option linter.unusedSimpArgs false
set_option maxHeartbeats 6400000 in
theorem headLevels_walk (h : Hd) (w : World) : Calls Try.prog 5 #[h.v] w fun e w' => e = .returned (.bool true) ∧ Grew w w' := by
  have ha := h.a.len
  have hb := h.b.len
  have hc := h.c.len
  have hd := h.d.len
  have hbi := h.hb
  unfold Hd.v
  go_enter Try.func5, Try.ntmps5
  go_wp2_with (go_at_call 9; refine stop_of ?_)
  unfold Stop
  refine Calls_abs ?_
  intro X hX
  have bX : HBox h X w.heap.size := by rw [hX]; exact HBox.made h w
  have gX : Grew w X := by rw [hX]; exact (by repeat (first | with_reducible exact Grew.refl _ | with_reducible apply Grew.alloc | with_reducible apply Grew.grow | with_reducible apply Grew.drew | with_reducible apply Grew.drewN))
  refine (awake_w X).mono ?_
  rintro e W1 ⟨rfl, hg⟩
  have B1 := bX.grew hg
  have G1 := Lib.hid (gX.trans hg)
  obtain ⟨g, hgg⟩ : ∃ g, w.heap.size = g := ⟨_, rfl⟩
  rw [hgg] at B1 ⊢
  have HB1 := Lib.hid B1
  have r1 := B1.r
  have l1 := B1.lt
  have c1 := B1.c133
  clear hX bX gX hg B1 hgg
  have C1 := Lib.hid (fun W => target_w h.bi hbi W)
  have C2 := Lib.hid (fun W => hput_w h W)
  go_wp2_with (first | (go_at_call 14; refine (C1.out _).mono ?_; rintro e W2 ⟨rfl, hg2⟩; have B2 := HB1.out.grew hg2; have r2 := B2.r; have l2 := B2.lt; have G2 := Lib.hid (G1.out.trans hg2); have HB2 := Lib.hid B2; clear hg2 B2 r1 l1 c1) | (go_at_call 10; refine stop_of ?_))
  unfold Stop
  refine Calls_abs ?_
  intro X2 hX
  have gX : Grew W2 X2 := by rw [hX]; exact (by repeat (first | with_reducible exact Grew.refl _ | with_reducible apply Grew.alloc | with_reducible apply Grew.grow | with_reducible apply Grew.drew | with_reducible apply Grew.drewN))
  have q2 : X2.rowAt W2.heap.size = wv (tg h.bi).n := by rw [hX]; simp [go_sem]
  have z2 : W2.heap.size < X2.heap.size := by rw [hX]; simp
  obtain ⟨g2, hg2⟩ : ∃ g, W2.heap.size = g := ⟨_, rfl⟩
  rw [hg2] at q2 z2 ⊢
  have B3 := HB2.out.grew gX
  have G3 := G2.out.trans gX
  clear hX gX hg2 r2 l2
  refine (C2.out X2).mono ?_
  rintro e W3 ⟨v, rfl, hs, hg⟩
  have B4 := B3.grew hg
  have HB4 := Lib.hid B4
  have r4 := B4.r
  have l4 := B4.lt
  have q4 : W3.rowAt g2 = wv (tg h.bi).n := by rw [rowAt_of_heap (hg.heap z2)]; exact q2
  have z4 : g2 < W3.heap.size := Nat.lt_of_lt_of_le z2 hg.size
  have G4 := Lib.hid (G3.trans hg)
  clear hs hg q2 z2 B3 G3 B4 C1 C2
  go_wp2_with (go_at_call 15; refine stop_of ?_)
  unfold Stop
  refine (hlev_w h W3).mono ?_
  rintro e W4 ⟨rfl, hg⟩
  have B5 := HB4.out.grew hg
  have r5 := B5.r
  have l5 := B5.lt
  have c5 := B5.c0
  have q5 : W4.rowAt g2 = wv (tg h.bi).n := by rw [rowAt_of_heap (hg.heap z4)]; exact q4
  have z5 : g2 < W4.heap.size := Nat.lt_of_lt_of_le z4 hg.size
  have G5 := Lib.hid (G4.out.trans hg)
  clear hg q4 z4 B5 r4 l4 G4
  have C1 := Lib.hid (fun W => hmay_w h W)
  have C2 := Lib.hid (fun W => hwork_w h W)
  have C3 := Lib.hid (fun W => work_w (tg h.bi) W)
  have C4 := Lib.hid (fun W => wof_w 0 (by decide) W)
  have C5 := Lib.hid (fun W => hid_w h W)
  have C6 := Lib.hid (fun W => level_i (hid h) (tg h.bi) W)
  have w0 : weq 0 0 = true := Wd.eq_of rfl
  cases ht : tgOk h.bi
  · have e1 : hlev h = -1 := by unfold hlev; rw [if_neg (by rw [ht]; simp)]
    have e2 : hmay h = false := by unfold hmay; rw [e1]; decide
    have e3 : (hwork h).n = 0 := by unfold hwork; rw [if_neg (by rw [ht]; simp)]; rfl
    rw [e2] at C1
    rw [e3] at C2
    rw [e1]
    clear e1 e2 e3 ht
    go_wp2
    first | refine wp_region_pure_lit_g (by kernel_rfl) (by kernel_rfl) ?_ | refine wp_region_pure_lit (by kernel_rfl) (by kernel_rfl) ?_
    repeat (go_big_quiet_step ((first | (go_at_call 16; exact Calls.pure_of (C1.out _)) | (go_at_call 17; exact Calls.pure_of (C2.out _)) | (go_at_call 19; exact Calls.pure_of (C4.out _)))))
    refine wpQuiet_nil ?_
    intro _ hw'
    obtain ⟨δ1, hw''⟩ := hw'
    subst hw''
    go_wp2
    go_ret
    exact ⟨rfl, G5.out.trans (by repeat (first | with_reducible exact Grew.refl _ | with_reducible apply Grew.alloc | with_reducible apply Grew.grow | with_reducible apply Grew.drew | with_reducible apply Grew.drewN))⟩
  have e3 : (hwork h).n = (wk (tg h.bi)).n := by unfold hwork; rw [if_pos ht]
  rw [e3] at C2
  have w1 : weq (wk (tg h.bi)).n (wk (tg h.bi)).n = true := Wd.eq_of rfl
  cases ho : hok h
  · have e1 : hlev h = -1 := by unfold hlev; rw [if_neg (by rw [ho]; simp)]
    have e2 : hmay h = false := by unfold hmay; rw [e1]; decide
    rw [e2] at C1
    rw [e1]
    clear e1 e2 e3 ht ho
    go_wp2
    first | refine wp_region_pure_lit_g (by kernel_rfl) (by kernel_rfl) ?_ | refine wp_region_pure_lit (by kernel_rfl) (by kernel_rfl) ?_
    repeat (go_big_quiet_step ((first | (go_at_call 16; exact Calls.pure_of (C1.out _)) | (go_at_call 17; exact Calls.pure_of (C2.out _)) | (go_at_call 18; exact Calls.pure_of (C3.out _)))))
    refine wpQuiet_nil ?_
    intro _ hw'
    obtain ⟨δ1, hw''⟩ := hw'
    subst hw''
    go_wp2
    go_ret
    exact ⟨rfl, G5.out.trans (by repeat (first | with_reducible exact Grew.refl _ | with_reducible apply Grew.alloc | with_reducible apply Grew.grow | with_reducible apply Grew.drew | with_reducible apply Grew.drewN))⟩
  have e2 : hmay h = decide (0 ≤ hlev h) := rfl
  rw [e2] at C1
  have hok' : 0 ≤ h.ht ∧ h.ht ≤ 1048576 := of_decide_eq_true ho
  by_cases h0 : h.ht = 0
  · have e1 : hlev h = 31 := by unfold hlev; rw [if_pos ⟨ht, ho⟩, if_pos h0]
    rw [e1] at C1 ⊢
    have h1 : (h.ht == 0) = true := by rw [h0]; rfl
    clear e1 e2 e3 ht ho h0 hok'
    go_wp2
    first | refine wp_region_pure_lit_g (by kernel_rfl) (by kernel_rfl) ?_ | refine wp_region_pure_lit (by kernel_rfl) (by kernel_rfl) ?_
    repeat (go_big_quiet_step ((first | (go_at_call 16; exact Calls.pure_of (C1.out _)) | (go_at_call 17; exact Calls.pure_of (C2.out _)) | (go_at_call 18; exact Calls.pure_of (C3.out _)))))
    refine wpQuiet_nil ?_
    intro _ hw'
    obtain ⟨δ1, hw''⟩ := hw'
    subst hw''
    go_wp2
    first | refine wp_region_pure_lit_g (by kernel_rfl) (by kernel_rfl) ?_ | refine wp_region_pure_lit (by kernel_rfl) (by kernel_rfl) ?_
    repeat (go_big_quiet_step ((fail)))
    refine wpQuiet_nil ?_
    intro _ hw'
    obtain ⟨δ1, hw''⟩ := hw'
    subst hw''
    go_wp2
    go_ret
    exact ⟨rfl, G5.out.trans (by repeat (first | with_reducible exact Grew.refl _ | with_reducible apply Grew.alloc | with_reducible apply Grew.grow | with_reducible apply Grew.drew | with_reducible apply Grew.drewN))⟩
  · have e1 : hlev h = lv (hid h) (tg h.bi) := by unfold hlev; rw [if_pos ⟨ht, ho⟩, if_neg h0]
    have h1 : (h.ht == 0) = false := by simpa using h0
    have h2 : decide (0 < h.ht) = true := by rw [decide_eq_true_eq]; omega
    obtain ⟨V, hV⟩ : ∃ V, hlev h = V := ⟨_, rfl⟩
    rw [hV] at C1 ⊢
    rw [← e1, hV] at C6
    clear e1 e2 e3 ht ho h0 hok' hV
    go_wp2
    first | refine wp_region_pure_lit_g (by kernel_rfl) (by kernel_rfl) ?_ | refine wp_region_pure_lit (by kernel_rfl) (by kernel_rfl) ?_
    repeat (go_big_quiet_step ((first | (go_at_call 16; exact Calls.pure_of (C1.out _)) | (go_at_call 17; exact Calls.pure_of (C2.out _)) | (go_at_call 18; exact Calls.pure_of (C3.out _)))))
    refine wpQuiet_nil ?_
    intro _ hw'
    obtain ⟨δ1, hw''⟩ := hw'
    subst hw''
    go_wp2
    first | refine wp_region_pure_lit_g (by kernel_rfl) (by kernel_rfl) ?_ | refine wp_region_pure_lit (by kernel_rfl) (by kernel_rfl) ?_
    repeat (go_big_quiet_step ((first | (go_at_call 12; exact Calls.pure_of (C5.out _)) | (go_at_call 20; exact Calls.pure_of (C6.out _)))))
    refine wpQuiet_nil ?_
    intro _ hw'
    obtain ⟨δ1, hw''⟩ := hw'
    subst hw''
    go_wp2
    go_ret
    exact ⟨rfl, G5.out.trans (by repeat (first | with_reducible exact Grew.refl _ | with_reducible apply Grew.alloc | with_reducible apply Grew.grow | with_reducible apply Grew.drew | with_reducible apply Grew.drewN))⟩
end Go.Proofs.Ytommbfgagalckaa
namespace Go.Proofs.Ytommbfgagalckaa.headLevels
set_option linter.unusedVariables false
set_option linter.unusedSimpArgs false
open Go.ChangeShapes Go.WideShapes Go.ChangeAt Go.RowKit

set_option maxRecDepth 100000 in
theorem lifted (os : Os) (started : os.Started) (H : Type) (enc : TypeId × Value → H) :
    ReturnsInHanded {} Try.checked os 5 .any (Rows.headLevelsSpec.pre6 enc Try.prog Try.f5 Rows.headLevelsRow.domain false) (Rows.headLevelsSpec.post enc Try.prog Try.f5 false true false false) := by
  refine returnsInHanded_of_change (C := Try.checked) own started (by kernel_rfl) Try.func5
    (ChangeSpec.witness6 (enc := enc) (C := Try.checked) false ⟨#[], #[.agg (hda 0 id0 id0 id0 id0 0 0 0)], []⟩ 8 (by kernel_rfl) (by kernel_rfl) (by kernel_rfl) (by kernel_rfl)) ?_
  intro W base args ds gs before hval0 hW _ _
  have hval : ∀ (j : Nat) t v, Try.f5.params[j]? = some t → args[j]? = some v → Value.okWide Try.prog W .any base t v := hval0
  have hW' := hW
  obtain ⟨p, q, hA0, hV, rfl, hfz, hnd⟩ := hW
  have hA : DataW.TrodAll enc Try.prog W 0 (fun _ => true) true Try.f5.params.toList args.toList ds p := hA0
  have hAk := hA
  rw [Try.params5] at hA hval
  obtain ⟨v0, vs0, d0, ds0, p0, q0, hargs0, rfl, rfl, h0, r0⟩ := trodAll_cons hA
  obtain ⟨rfl, rfl, rfl⟩ := trodAll_nil r0
  obtain rfl : args = #[v0] := by cases args; simp_all
  obtain ⟨rfl, rfl⟩ := trodVars_none hV
  obtain ⟨a0, rfl⟩ := open_head (hval 0 29 v0 rfl rfl) h0
  simp only [List.append_nil] at hW'
  refine (headLevels_walk a0 W ).mono fun e W' ⟨he, hg⟩ => ?_
  subst he
  exact ⟨_, rfl, post_of_stays hW' rfl (by simpa using hAk) (types_ok _ (by rw [Try.params5]; kernel_rfl)) rfl rfl (fun _ _ _ => (trodAll_cons_mk (shut_bool Try.underlying4 _) trodAll_mk0))
    hg (ok_one (by kernel_rfl) rfl (okWide_bool_mk Try.underlying4 _))⟩

theorem proved : Rows.HeadLevelsSaid :=
  OpenClaim.holds_of_wide 5 Try.f5 rfl rfl rfl rfl rfl rfl rfl ⟨rfl, rfl, rfl, rfl, rfl⟩ rfl rfl rfl rfl rfl (by kernel_rfl) Try.func5 (by kernel_rfl)
    (of_decide_eq_true (by kernel_rfl)) (by unfold Func.isWrapper; first | (rw [if_pos (by decide +kernel)]; kernel_rfl) | (rw [if_neg (by decide +kernel)]; exact ⟨rfl, rfl⟩))
    (fun os started H enc _ => lifted os started H enc)
end Go.Proofs.Ytommbfgagalckaa.headLevels
