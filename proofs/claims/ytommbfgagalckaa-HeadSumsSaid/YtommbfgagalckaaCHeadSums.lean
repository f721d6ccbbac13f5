/- 'stepladderlaw08.HeadSums' answers true for every head, head, without panicking, and what it was handed reads as before. Conditions: none. -/
import Derived.Test.YtommbfgagalckaaRows
import Derived.Test.YtommbfgagalckaaM6
/- HeadSums: the walk. -/
namespace Go.Proofs.Ytommbfgagalckaa
open Go.RowKit
set_option maxRecDepth 100000
set_option linter.unusedVariables false
set_option linter.unusedSimpArgs false
set_option maxHeartbeats 6400000 in
theorem built_5 (X : World) (c : Nat) : OwnR (X.alloc (.cells #[.int .u8 c] 5)) X.heap.size 5 (.slice (some ⟨X.heap.size, 0, none⟩) 1 1) (bys [c]) :=
  own_alloc X X.heap.size 5 [.int .u8 c] (Nat.le_refl _) (by simp [maxLen])
theorem headSums_walk (h g : Hd) (w : World) : Calls Try.prog 4 #[h.v, g.v] w fun e w' => e = .returned (.bool true) ∧ Grew w w' := by
  obtain ⟨ib, hi, hz, hsz, hby⟩ := info_b
  have hO0 : (hok h = false ∧ hid h = Idb.zero) ∨ (hok h = true ∧ (hpL h).length = 176 ∧ hid h = sumI (5 :: hpL h)) := by
    cases ho : hok h
    · exact .inl ⟨rfl, by unfold hid; rw [if_neg (by rw [ho]; decide)]⟩
    · exact .inr ⟨rfl, by rw [hpL_ok ho]; exact hputL_len h, by unfold hid; rw [if_pos ho, hpL_ok ho]⟩
  have hO1 : hok g = false ∨ (hok g = true ∧ (hpL g).length = 176 ∧ hid g = sumI (5 :: hpL g)) := by
    cases ho : hok g
    · exact .inl rfl
    · exact .inr ⟨rfl, by rw [hpL_ok ho]; exact hputL_len g, by unfold hid; rw [if_pos ho, hpL_ok ho]⟩
  have hE : hok h = true → hok g = true → Hd.eq h g = true ∨ (Hd.eq h g = false ∧ ((bstr (5 :: hpL h)).toList == (bstr (5 :: hpL g)).toList) = false) := fun h1 h2 => by
    cases he : Hd.eq h g
    · refine .inr ⟨rfl, ?_⟩
      rw [eq_bstr _ _ (by intro x hx; rcases List.mem_cons.1 hx with rfl | hx; decide; exact hpL_lt h x hx) (by intro x hx; rcases List.mem_cons.1 hx with rfl | hx; decide; exact hpL_lt g x hx)]
      refine decide_eq_false (fun e => ?_)
      rw [List.cons.injEq, hpL_ok h1, hpL_ok h2] at e
      have := (Hd.eq_iff h g).2 (hput_inj h1 h2 e.2)
      rw [he] at this; cases this
    · exact .inl rfl
  have hPb := hpL_lt h
  have hQb := hpL_lt g
  have CP := Lib.hid (fun W => hput_w h W)
  have CQ := Lib.hid (fun W => hput_w g W)
  have CI := Lib.hid (fun W => hid_w h W)
  have CJ := Lib.hid (fun W => hid_w g W)
  obtain ⟨O, hO⟩ : ∃ M, hok h = M := ⟨_, rfl⟩
  obtain ⟨P, hP⟩ : ∃ M, hpL h = M := ⟨_, rfl⟩
  obtain ⟨O2, hO2⟩ : ∃ M, hok g = M := ⟨_, rfl⟩
  obtain ⟨Q, hQ⟩ : ∃ M, hpL g = M := ⟨_, rfl⟩
  obtain ⟨I, hI⟩ : ∃ M, hid h = M := ⟨_, rfl⟩
  obtain ⟨J, hJ⟩ : ∃ M, hid g = M := ⟨_, rfl⟩
  rw [hO, hP] at CP hO0
  rw [hO2, hQ] at CQ hO1
  rw [hO, hP, hO2, hQ] at hE
  rw [hP] at hPb
  rw [hQ] at hQb
  rw [hI] at CI hO0
  rw [hJ] at CJ hO1
  have li := I.len
  have lj := J.len
  have O0 := Lib.hid hO0
  have O1 := Lib.hid hO1
  have HE := Lib.hid hE
  have PB := Lib.hid hPb
  have QB := Lib.hid hQb
  have ha0 := h.a.len
  have hb0 := h.b.len
  have hc0 := h.c.len
  have hd0 := h.d.len
  have ha1 := g.a.len
  have hb1 := g.b.len
  have hc1 := g.c.len
  have hd1 := g.d.len
  clear hO hP hO2 hQ hI hJ hO0 hO1 hE hPb hQb
  unfold Hd.v
  go_enter Try.func4, Try.ntmps4
  go_wp2_with (go_at_call 9; refine stop_of ?_)
  unfold Stop
  refine Calls_abs ?_
  intro X hX
  have GG' : Grew w X := by rw [hX]; exact (by repeat (first | with_reducible exact Grew.refl _ | with_reducible apply Grew.alloc | with_reducible apply Grew.grow | with_reducible apply Grew.drew | with_reducible apply Grew.drewN))
  have B3' : HBox h X (w.heap.size) := ⟨by rw [hX]; simp [go_sem], by rw [hX]; simp only [World.size_alloc]; omega⟩
  obtain ⟨gB3, hgB3⟩ : ∃ g, w.heap.size = g := ⟨_, rfl⟩
  have B4' : HBox g X (w.heap.size + 1) := ⟨by rw [hX]; simp [go_sem], by rw [hX]; simp only [World.size_alloc]; omega⟩
  obtain ⟨gB4, hgB4⟩ : ∃ g, w.heap.size + 1 = g := ⟨_, rfl⟩
  rw [hgB4] at B4' ⊢
  rw [hgB3] at B3' ⊢
  clear hgB3
  clear hgB4
  clear hX
  refine (awake_w X).mono ?_
  rintro e W ⟨rfl, hg⟩
  have GG := Lib.hid (GG'.trans hg)
  clear GG'
  have B3 := Lib.hid (B3'.grew hg)
  have rB3 := B3.out.r
  have lB3 := B3.out.lt
  clear B3'
  have B4 := Lib.hid (B4'.grew hg)
  have rB4 := B4.out.r
  have lB4 := B4.out.lt
  clear B4'
  clear hg
  go_wp2_with (go_at_call 10; refine stop_of ?_)
  unfold Stop
  refine Calls_abs ?_
  intro X0 hX
  have gX : Grew W X0 := by rw [hX]; exact (by repeat (first | with_reducible exact Grew.refl _ | with_reducible apply Grew.alloc | with_reducible apply Grew.grow | with_reducible apply Grew.drew | with_reducible apply Grew.drewN))
  have GG' := GG.out.trans gX
  have B3' := B3.out.grew gX
  have B4' := B4.out.grew gX
  clear hX gX GG B3 B4 rB3 lB3 rB4 lB4
  refine (CP.out X0).mono ?_
  rintro e W0 ⟨v1, rfl, sv, hg⟩
  have GG := Lib.hid (GG'.trans hg)
  clear GG'
  have B3 := Lib.hid (B3'.grew hg)
  have rB3 := B3.out.r
  have lB3 := B3.out.lt
  clear B3'
  have B4 := Lib.hid (B4'.grew hg)
  have rB4 := B4.out.r
  have lB4 := B4.out.lt
  clear B4'
  have S1 := Lib.hid sv
  clear sv
  clear hg
  go_wp2_with (go_at_call 10; refine stop_of ?_)
  unfold Stop
  refine Calls_abs ?_
  intro X1 hX
  have gX : Grew W0 X1 := by rw [hX]; exact (by repeat (first | with_reducible exact Grew.refl _ | with_reducible apply Grew.alloc | with_reducible apply Grew.grow | with_reducible apply Grew.drew | with_reducible apply Grew.drewN))
  have GG' := GG.out.trans gX
  have B3' := B3.out.grew gX
  have B4' := B4.out.grew gX
  have S1' := S1.out.grew gX
  clear hX gX GG B3 B4 S1 rB3 lB3 rB4 lB4
  refine (CQ.out X1).mono ?_
  rintro e W1 ⟨v2, rfl, sv, hg⟩
  have GG := Lib.hid (GG'.trans hg)
  clear GG'
  have B3 := Lib.hid (B3'.grew hg)
  have rB3 := B3.out.r
  have lB3 := B3.out.lt
  clear B3'
  have B4 := Lib.hid (B4'.grew hg)
  have rB4 := B4.out.r
  have lB4 := B4.out.lt
  clear B4'
  have S1 := Lib.hid (S1'.grew hg)
  clear S1'
  have S2 := Lib.hid sv
  clear sv
  clear hg
  rcases O0.out with ⟨rfl, rfl⟩ | ⟨rfl, f1, f2⟩
  · have e1 : ieq Idb.zero.l id0 = true := decide_eq_true rfl
    go_wp2_with (go_at_call 12; refine (CI.out _).mono ?_; rintro e w' ⟨rfl, δ1, rfl⟩)
    go_ret
    exact ⟨rfl, GG.out.trans (by repeat (first | with_reducible exact Grew.refl _ | with_reducible apply Grew.alloc | with_reducible apply Grew.grow | with_reducible apply Grew.drew | with_reducible apply Grew.drewN))⟩
  rcases O1.out with rfl | ⟨rfl, f3, f4⟩
  · go_wp2_with (go_at_call 12; refine (CI.out _).mono ?_; rintro e w' ⟨rfl, δ1, rfl⟩)
    go_ret
    exact ⟨rfl, GG.out.trans (by repeat (first | with_reducible exact Grew.refl _ | with_reducible apply Grew.alloc | with_reducible apply Grew.grow | with_reducible apply Grew.drew | with_reducible apply Grew.drewN))⟩
  have HE2 := Lib.hid (HE.out rfl rfl)
  have F1 := Lib.hid f1
  have F2 := Lib.hid f2
  have F3 := Lib.hid f3
  have F4 := Lib.hid f4
  clear f1 f2 f3 f4 O0 O1
  go_wp2_with (at_builtin; refine stop_of ?_)
  unfold Stop
  have o1 := Lib.hid (built_5 W1 5)
  have sv := Lib.hid (show Shows W1 v1 (bys P) from by obtain ⟨p, k, rfl, _, s⟩ := S1.out; exact s)
  refine wpList_appends rfl _ _ _ rfl _ ib _ 1 under_bs hi hz hsz hby rfl W1 _ _ _ rfl rfl (bys [5]) (bys P) (by repeat (first | with_reducible exact Grew.refl _ | with_reducible apply Grew.alloc | with_reducible apply Grew.grow | with_reducible apply Grew.drew | with_reducible apply Grew.drewN)) (by exact o1.out) (by exact sv.out.grew (by repeat (first | with_reducible exact Grew.refl _ | with_reducible apply Grew.alloc | with_reducible apply Grew.grow | with_reducible apply Grew.drew | with_reducible apply Grew.drewN))) (bys_one _) (by rw [bys_len, bys_len, F1.out]; simp [maxLen]) (by rw [bys_len, bys_len, F1.out]; simp) ?_
  intro v3 W2 ho hg
  rw [← bys_append] at ho
  have SA := Lib.hid (show Shows W2 v3 (bys (5 :: P)) from ho.shows)
  have S2' := Lib.hid (S2.out.grew hg)
  have G2 := Lib.hid (GG.out.trans hg)
  have b3 := Lib.hid (B3.out.grew hg)
  have b4 := Lib.hid (B4.out.grew hg)
  clear ho hg o1 sv S1 S2 GG B3 B4 rB3 rB4 lB3 lB4
  go_wp2_with (at_builtin; refine stop_of ?_)
  unfold Stop
  have o1 := Lib.hid (built_5 W2 5)
  have sv := Lib.hid (show Shows W2 v2 (bys Q) from by obtain ⟨p, k, rfl, _, s⟩ := S2'.out; exact s)
  refine wpList_appends rfl _ _ _ rfl _ ib _ 1 under_bs hi hz hsz hby rfl W2 _ _ _ rfl rfl (bys [5]) (bys Q) (by repeat (first | with_reducible exact Grew.refl _ | with_reducible apply Grew.alloc | with_reducible apply Grew.grow | with_reducible apply Grew.drew | with_reducible apply Grew.drewN)) (by exact o1.out) (by exact sv.out.grew (by repeat (first | with_reducible exact Grew.refl _ | with_reducible apply Grew.alloc | with_reducible apply Grew.grow | with_reducible apply Grew.drew | with_reducible apply Grew.drewN))) (bys_one _) (by rw [bys_len, bys_len, F3.out]; simp [maxLen]) (by rw [bys_len, bys_len, F3.out]; simp) ?_
  intro v4 W3 ho hg
  rw [← bys_append] at ho
  have SC := Lib.hid (show Shows W3 v4 (bys (5 :: Q)) from ho.shows)
  have SA3 := Lib.hid (SA.out.grew hg)
  have G3 := Lib.hid (G2.out.trans hg)
  have c3 := b3.out.grew hg
  have c4 := b4.out.grew hg
  have r3 := c3.r
  have r4 := c4.r
  have l3 := c3.lt
  have l4 := c4.lt
  clear ho hg o1 sv S2' G2 b3 b4 SA c3 c4
  have KA := Lib.hid (fun W (g : Grew W3 W) => sum_w (5 :: P) v3 W (by simp [F1.out]) (by intro x hx; rcases List.mem_cons.1 hx with rfl | hx; decide; exact PB.out x hx) (SA3.out.grew g))
  have KB := Lib.hid (fun W (g : Grew W3 W) => sum_w (5 :: Q) v4 W (by simp [F3.out]) (by intro x hx; rcases List.mem_cons.1 hx with rfl | hx; decide; exact QB.out x hx) (SC.out.grew g))
  rw [show sum (5 :: P) = I.l by rw [F2.out]; rfl] at KA
  rw [show sum (5 :: Q) = J.l by rw [F4.out]; rfl] at KB
  have e1 : ieq I.l I.l = true := decide_eq_true rfl
  have e2 : ieq J.l J.l = true := decide_eq_true rfl
  go_wp2_with (first | (go_at_call 12; refine (CI.out _).mono ?_; rintro e w' ⟨rfl, δ1, rfl⟩) | (go_at_call 13; refine stop_of ?_))
  unfold Stop
  refine (KA.out _ (by repeat (first | with_reducible exact Grew.refl _ | with_reducible apply Grew.alloc | with_reducible apply Grew.grow | with_reducible apply Grew.drew | with_reducible apply Grew.drewN))).mono ?_
  rintro e w' ⟨rfl, δ2, rfl⟩
  go_wp2_with (first | (go_at_call 12; refine (CJ.out _).mono ?_; rintro e w' ⟨rfl, δ3, rfl⟩) | (go_at_call 13; refine stop_of ?_))
  unfold Stop
  refine (KB.out _ (by repeat (first | with_reducible exact Grew.refl _ | with_reducible apply Grew.alloc | with_reducible apply Grew.grow | with_reducible apply Grew.drew | with_reducible apply Grew.drewN))).mono ?_
  rintro e w' ⟨rfl, δ4, rfl⟩
  go_wp2
  refine code_abs ?_
  intro Y hY
  have gY : Grew W3 Y := by rw [hY]; exact (by repeat (first | with_reducible exact Grew.refl _ | with_reducible apply Grew.alloc | with_reducible apply Grew.grow | with_reducible apply Grew.drew | with_reducible apply Grew.drewN))
  have r5 : Y.rowAt gB3 = hda h.ht h.a.l h.b.l h.c.l h.d.l h.w.n h.bi h.no := by rw [rowAt_of_heap (gY.heap l3)]; exact r3
  have r6 : Y.rowAt gB4 = hda g.ht g.a.l g.b.l g.c.l g.d.l g.w.n g.bi g.no := by rw [rowAt_of_heap (gY.heap l4)]; exact r4
  have l5 := Nat.lt_of_lt_of_le l3 gY.size
  have l6 := Nat.lt_of_lt_of_le l4 gY.size
  have t1 := conv_str (SA3.out.grew gY)
  have t2 := conv_str (SC.out.grew gY)
  have GY := Lib.hid (G3.out.trans gY)
  clear hY gY r3 r4 l3 l4 SA3 SC G3 KA KB
  rcases HE2.out with he | ⟨he, hse⟩
  · clear e1
    first | refine wp_region_pure_lit_g (by kernel_rfl) (by kernel_rfl) ?_ | refine wp_region_pure_lit (by kernel_rfl) (by kernel_rfl) ?_
    repeat (go_big_quiet_step ((fail)))
    refine wpQuiet_nil ?_
    intro _ hw'
    obtain ⟨δ1, hw''⟩ := hw'
    subst hw''
    go_wp2
    go_ret
    exact ⟨rfl, GY.out.trans (by repeat (first | with_reducible exact Grew.refl _ | with_reducible apply Grew.alloc | with_reducible apply Grew.grow | with_reducible apply Grew.drew | with_reducible apply Grew.drewN))⟩
  · cases hij : ieq I.l J.l
    all_goals
      first | refine wp_region_pure_lit_g (by kernel_rfl) (by kernel_rfl) ?_ | refine wp_region_pure_lit (by kernel_rfl) (by kernel_rfl) ?_
      repeat (go_big_quiet_step ((go_at_call 12; (with_reducible first | exact Calls.pure_of (CI.out _) | exact Calls.pure_of (CJ.out _)))))
      refine wpQuiet_nil ?_
      intro _ hw'
      obtain ⟨δ1, hw''⟩ := hw'
      subst hw''
      go_wp2
      go_ret
      exact ⟨rfl, GY.out.trans (by repeat (first | with_reducible exact Grew.refl _ | with_reducible apply Grew.alloc | with_reducible apply Grew.grow | with_reducible apply Grew.drew | with_reducible apply Grew.drewN))⟩
end Go.Proofs.Ytommbfgagalckaa
namespace Go.Proofs.Ytommbfgagalckaa.headSums
set_option linter.unusedVariables false
set_option linter.unusedSimpArgs false
open Go.ChangeShapes Go.WideShapes Go.ChangeAt Go.RowKit

set_option maxRecDepth 100000 in
theorem lifted (os : Os) (started : os.Started) (H : Type) (enc : TypeId × Value → H) :
    ReturnsInHanded {} Try.checked os 4 .any (Rows.headSumsSpec.pre6 enc Try.prog Try.f4 Rows.headSumsRow.domain false) (Rows.headSumsSpec.post enc Try.prog Try.f4 false true false false) := by
  refine returnsInHanded_of_change (C := Try.checked) own started (by kernel_rfl) Try.func4
    (ChangeSpec.witness6 (enc := enc) (C := Try.checked) false ⟨#[], #[.agg (hda 0 id0 id0 id0 id0 0 0 0), .agg (hda 0 id0 id0 id0 id0 0 0 0)], []⟩ 8 (by kernel_rfl) (by kernel_rfl) (by kernel_rfl) (by kernel_rfl)) ?_
  intro W base args ds gs before hval0 hW _ _
  have hval : ∀ (j : Nat) t v, Try.f4.params[j]? = some t → args[j]? = some v → Value.okWide Try.prog W .any base t v := hval0
  have hW' := hW
  obtain ⟨p, q, hA0, hV, rfl, hfz, hnd⟩ := hW
  have hA : DataW.TrodAll enc Try.prog W 0 (fun _ => true) true Try.f4.params.toList args.toList ds p := hA0
  have hAk := hA
  rw [Try.params4] at hA hval
  obtain ⟨v0, vs0, d0, ds0, p0, q0, hargs0, rfl, rfl, h0, r0⟩ := trodAll_cons hA
  obtain ⟨v1, vs1, d1, ds1, p1, q1, hargs1, rfl, rfl, h1, r1⟩ := trodAll_cons r0
  obtain ⟨rfl, rfl, rfl⟩ := trodAll_nil r1
  subst hargs1
  obtain rfl : args = #[v0, v1] := by cases args; simp_all
  obtain ⟨rfl, rfl⟩ := trodVars_none hV
  obtain ⟨a0, rfl⟩ := open_head (hval 0 29 v0 rfl rfl) h0
  obtain ⟨a1, rfl⟩ := open_head (hval 1 29 v1 rfl rfl) h1
  simp only [List.append_nil] at hW'
  refine (headSums_walk a0 a1 W ).mono fun e W' ⟨he, hg⟩ => ?_
  subst he
  exact ⟨_, rfl, post_of_stays hW' rfl (by simpa using hAk) (types_ok _ (by rw [Try.params4]; kernel_rfl)) rfl rfl (fun _ _ _ => (trodAll_cons_mk (shut_bool Try.underlying4 _) trodAll_mk0))
    hg (ok_one (by kernel_rfl) rfl (okWide_bool_mk Try.underlying4 _))⟩

theorem proved : Rows.HeadSumsSaid :=
  OpenClaim.holds_of_wide 4 Try.f4 rfl rfl rfl rfl rfl rfl rfl ⟨rfl, rfl, rfl, rfl, rfl⟩ rfl rfl rfl rfl rfl (by kernel_rfl) Try.func4 (by kernel_rfl)
    (of_decide_eq_true (by kernel_rfl)) (by unfold Func.isWrapper; first | (rw [if_pos (by decide +kernel)]; kernel_rfl) | (rw [if_neg (by decide +kernel)]; exact ⟨rfl, rfl⟩))
    (fun os started H enc _ => lifted os started H enc)
end Go.Proofs.Ytommbfgagalckaa.headSums
