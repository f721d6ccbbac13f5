/- 'stepladderlaw08.HeadTells' answers true for every head, slice of bytes, int, without panicking, and what it was handed reads as before. Conditions: none. -/
import Derived.Test.YtommbfgagalckaaRows
import Derived.Test.YtommbfgagalckaaM6
/- HeadTells: the walk. -/
namespace Go.Proofs.Ytommbfgagalckaa
open Go.RowKit
set_option maxRecDepth 100000
set_option linter.unusedVariables false
set_option linter.unusedSimpArgs false
set_option maxHeartbeats 6400000 in
theorem headTells_walk (h : Hd) (q : Option Addr) (c : Nat) (l : List Nat) (hb : ∀ x ∈ l, x < 256) (hm : l.length ≤ maxLen) (tries : Int) (w : World) (hs : Shows w (.slice q l.length c) (bys l)) (hx : l.length ≤ c) :
    Calls Try.prog 7 #[h.v, .slice q l.length c, .int .i64 tries] w fun e w' => e = .returned (.bool true) ∧ Grew w w' := by
  have SB0 := Lib.hid (show ShowsC w (.slice q l.length c) l from ⟨q, c, rfl, hx, hs⟩)
  have HB := Lib.hid hb
  obtain ⟨M, hM⟩ : ∃ M, (hmine h tries).1 = M := ⟨_, rfl⟩
  obtain ⟨E, hE⟩ : ∃ M, (hmine h tries).2 = M := ⟨_, rfl⟩
  obtain ⟨R, hR⟩ : ∃ M, hrd l = M := ⟨_, rfl⟩
  obtain ⟨C, hC⟩ : ∃ M, (hread l).isSome = M := ⟨_, rfl⟩
  obtain ⟨O, hO⟩ : ∃ M, hok h = M := ⟨_, rfl⟩
  obtain ⟨P, hP⟩ : ∃ M, hpL h = M := ⟨_, rfl⟩
  obtain ⟨I, hI⟩ : ∃ M, hid h = M := ⟨_, rfl⟩
  obtain ⟨V, hV⟩ : ∃ M, hlev h = M := ⟨_, rfl⟩
  obtain ⟨K, hK⟩ : ∃ M, hwork h = M := ⟨_, rfl⟩
  obtain ⟨Y, hY⟩ : ∃ M, hmay h = M := ⟨_, rfl⟩
  have CM := Lib.hid (fun W => hmine_w h tries W)
  have CN := Lib.hid (fun W => rhmine_w h tries W)
  rw [hM, hE] at CM CN
  have CP := Lib.hid (fun W => hput_w h W)
  have CQ := Lib.hid (fun W => rhput_w h W)
  rw [hO, hP] at CP CQ
  have hln : ((l.length : Nat) : Int) ≤ 400 → l.length ≤ 1000000 := fun h => by omega
  have CR := Lib.hid (fun (hn : ((l.length : Nat) : Int) ≤ 400) W (g : ShowsC W (.slice q l.length c) l) => hread_w l _ W g hb (hln hn))
  have CT := Lib.hid (fun (hn : ((l.length : Nat) : Int) ≤ 400) W (g : ShowsC W (.slice q l.length c) l) => rhread_w l _ W g hb (hln hn))
  rw [hR, hC] at CR CT
  have C1 := Lib.hid (fun W => hid_w h W)
  have C2 := Lib.hid (fun W => rhid_w h W)
  rw [hI] at C1 C2
  have C3 := Lib.hid (fun W => hlev_w h W)
  have C4 := Lib.hid (fun W => rhlev_w h W)
  rw [hV] at C3 C4
  have C5 := Lib.hid (fun W => hwork_w h W)
  have C6 := Lib.hid (fun W => rhwork_w h W)
  rw [hK] at C5 C6
  have C7 := Lib.hid (fun W => hmay_w h W)
  have C8 := Lib.hid (fun W => rhmay_w h W)
  rw [hY] at C7 C8
  have e1 : ((bstr P).toList == (bstr P).toList) = true := by simp
  have e2 : Hd.eq R R = true := (Hd.eq_iff R R).2 rfl
  have e3 : Hd.eq M M = true := (Hd.eq_iff M M).2 rfl
  have e4 : weq K.n K.n = true := Wd.eq_of rfl
  have e5 : ieq I.l I.l = true := by unfold ieq; exact decide_eq_true rfl
  have li := I.len
  have ha0 := h.a.len
  have hb0 := h.b.len
  have hc0 := h.c.len
  have hd0 := h.d.len
  have ha1 := R.a.len
  have hb1 := R.b.len
  have hc1 := R.c.len
  have hd1 := R.d.len
  have ha2 := M.a.len
  have hb2 := M.b.len
  have hc2 := M.c.len
  have hd2 := M.d.len
  obtain ⟨N, hN⟩ : ∃ N, l.length = N := ⟨_, rfl⟩
  rw [hN] at SB0 CR CT
  rw [hN]
  clear hM hE hR hC hO hP hI hV hK hY hs hx hln hm hN hb
  unfold Hd.v
  go_enter Try.func7, Try.ntmps7
  go_wp2_with (go_at_call 9; refine stop_of ?_)
  unfold Stop
  refine Calls_abs ?_
  intro X hX
  have GG' : Grew w X := by rw [hX]; exact (by repeat (first | with_reducible exact Grew.refl _ | with_reducible apply Grew.alloc | with_reducible apply Grew.grow | with_reducible apply Grew.drew | with_reducible apply Grew.drewN))
  have B3' : HBox h X (w.heap.size) := ⟨by rw [hX]; simp [go_sem], by rw [hX]; simp⟩
  obtain ⟨gB3, hgB3⟩ : ∃ g, w.heap.size = g := ⟨_, rfl⟩
  rw [hgB3] at B3' ⊢
  clear hgB3
  clear hX
  refine (awake_w X).mono ?_
  rintro e W ⟨rfl, hg⟩
  have GG := Lib.hid (GG'.trans hg)
  clear GG'
  have B3 := Lib.hid (B3'.grew hg)
  have rB3 := B3.out.r
  have lB3 := B3.out.lt
  clear B3'
  clear hg
  have SB := Lib.hid (SB0.out.grew GG.out)
  clear SB0
  by_cases hn : (N : Int) ≤ 400
  rotate_left
  · go_wp2
    go_ret
    exact ⟨rfl, GG.out.trans (by repeat (first | with_reducible exact Grew.refl _ | with_reducible apply Grew.alloc | with_reducible apply Grew.grow | with_reducible apply Grew.drew | with_reducible apply Grew.drewN))⟩
  by_cases ht : tries ≤ 30
  rotate_left
  · go_wp2
    go_ret
    exact ⟨rfl, GG.out.trans (by repeat (first | with_reducible exact Grew.refl _ | with_reducible apply Grew.alloc | with_reducible apply Grew.grow | with_reducible apply Grew.drew | with_reducible apply Grew.drewN))⟩
  go_wp2_with (go_at_call 10; refine stop_of ?_)
  unfold Stop
  refine Calls_abs ?_
  intro X0 hX
  have gX : Grew W X0 := by rw [hX]; exact (by repeat (first | with_reducible exact Grew.refl _ | with_reducible apply Grew.alloc | with_reducible apply Grew.grow | with_reducible apply Grew.drew | with_reducible apply Grew.drewN))
  have GG' := GG.out.trans gX
  have B3' := B3.out.grew gX
  have SB' := SB.out.grew gX
  clear hX gX GG B3 SB rB3 lB3
  refine (CP.out X0).mono ?_
  rintro e W0 ⟨v1, rfl, sv, hg⟩
  have GG := Lib.hid (GG'.trans hg)
  clear GG'
  have B3 := Lib.hid (B3'.grew hg)
  have rB3 := B3.out.r
  have lB3 := B3.out.lt
  clear B3'
  have SB := Lib.hid (SB'.grew hg)
  clear SB'
  have S1 := Lib.hid sv
  clear sv
  clear hg
  go_wp2_with (go_at_call 21; refine stop_of ?_)
  unfold Stop
  refine Calls_abs ?_
  intro X1 hX
  have gX : Grew W0 X1 := by rw [hX]; exact (by repeat (first | with_reducible exact Grew.refl _ | with_reducible apply Grew.alloc | with_reducible apply Grew.grow | with_reducible apply Grew.drew | with_reducible apply Grew.drewN))
  have GG' := GG.out.trans gX
  have B3' := B3.out.grew gX
  have SB' := SB.out.grew gX
  have S1' := S1.out.grew gX
  clear hX gX GG B3 SB S1 rB3 lB3
  refine (CQ.out X1).mono ?_
  rintro e W1 ⟨v2, rfl, sv, hg⟩
  have GG := Lib.hid (GG'.trans hg)
  clear GG'
  have B3 := Lib.hid (B3'.grew hg)
  have rB3 := B3.out.r
  have lB3 := B3.out.lt
  clear B3'
  have SB := Lib.hid (SB'.grew hg)
  clear SB'
  have S1 := Lib.hid (S1'.grew hg)
  clear S1'
  have S2 := Lib.hid sv
  clear sv
  clear hg
  go_wp2_with (go_at_call 11; refine stop_of ?_)
  unfold Stop
  refine Calls_abs ?_
  intro X2 hX
  have gX : Grew W1 X2 := by rw [hX]; exact (by repeat (first | with_reducible exact Grew.refl _ | with_reducible apply Grew.alloc | with_reducible apply Grew.grow | with_reducible apply Grew.drew | with_reducible apply Grew.drewN))
  have GG' := GG.out.trans gX
  have B3' := B3.out.grew gX
  have SB' := SB.out.grew gX
  have S1' := S1.out.grew gX
  have S2' := S2.out.grew gX
  clear hX gX GG B3 SB S1 S2 rB3 lB3
  refine (CR.out hn X2 SB').mono ?_
  rintro e W2 ⟨rfl, hg⟩
  have GG := Lib.hid (GG'.trans hg)
  clear GG'
  have B3 := Lib.hid (B3'.grew hg)
  have rB3 := B3.out.r
  have lB3 := B3.out.lt
  clear B3'
  have SB := Lib.hid (SB'.grew hg)
  clear SB'
  have S1 := Lib.hid (S1'.grew hg)
  clear S1'
  have S2 := Lib.hid (S2'.grew hg)
  clear S2'
  clear hg
  unfold Hd.v
  go_wp2_with (go_at_call 22; refine stop_of ?_)
  unfold Stop
  refine Calls_abs ?_
  intro X3 hX
  have gX : Grew W2 X3 := by rw [hX]; exact (by repeat (first | with_reducible exact Grew.refl _ | with_reducible apply Grew.alloc | with_reducible apply Grew.grow | with_reducible apply Grew.drew | with_reducible apply Grew.drewN))
  have GG' := GG.out.trans gX
  have B3' := B3.out.grew gX
  have SB' := SB.out.grew gX
  have S1' := S1.out.grew gX
  have S2' := S2.out.grew gX
  have B12' : HBox R X3 W2.heap.size := by rw [hX]; exact HBox.made _ _
  obtain ⟨gB12, hgB12⟩ : ∃ g, W2.heap.size = g := ⟨_, rfl⟩
  rw [hgB12] at B12' ⊢
  clear hgB12
  clear hX gX GG B3 SB S1 S2 rB3 lB3
  refine (CT.out hn X3 SB').mono ?_
  rintro e W3 ⟨rfl, hg⟩
  have GG := Lib.hid (GG'.trans hg)
  clear GG'
  have B3 := Lib.hid (B3'.grew hg)
  have rB3 := B3.out.r
  have lB3 := B3.out.lt
  clear B3'
  clear SB'
  have S1 := Lib.hid (S1'.grew hg)
  clear S1'
  have S2 := Lib.hid (S2'.grew hg)
  clear S2'
  have B12 := Lib.hid (B12'.grew hg)
  have rB12 := B12.out.r
  have lB12 := B12.out.lt
  clear B12'
  clear hg
  unfold Hd.v
  go_wp2_with (go_at_call 23; refine stop_of ?_)
  unfold Stop
  refine Calls_abs ?_
  intro X4 hX
  have gX : Grew W3 X4 := by rw [hX]; exact (by repeat (first | with_reducible exact Grew.refl _ | with_reducible apply Grew.alloc | with_reducible apply Grew.grow | with_reducible apply Grew.drew | with_reducible apply Grew.drewN))
  have GG' := GG.out.trans gX
  have B3' := B3.out.grew gX
  have S1' := S1.out.grew gX
  have S2' := S2.out.grew gX
  have B12' := B12.out.grew gX
  have B14' : HBox R X4 W3.heap.size := by rw [hX]; exact HBox.made _ _
  obtain ⟨gB14, hgB14⟩ : ∃ g, W3.heap.size = g := ⟨_, rfl⟩
  rw [hgB14] at B14' ⊢
  clear hgB14
  clear hX gX GG B3 S1 S2 B12 rB3 lB3 rB12 lB12
  refine (CM.out X4).mono ?_
  rintro e W4 ⟨rfl, hg⟩
  have GG := Lib.hid (GG'.trans hg)
  clear GG'
  have B3 := Lib.hid (B3'.grew hg)
  have rB3 := B3.out.r
  have lB3 := B3.out.lt
  clear B3'
  have S1 := Lib.hid (S1'.grew hg)
  clear S1'
  have S2 := Lib.hid (S2'.grew hg)
  clear S2'
  have B12 := Lib.hid (B12'.grew hg)
  have rB12 := B12.out.r
  have lB12 := B12.out.lt
  clear B12'
  have B14 := Lib.hid (B14'.grew hg)
  have rB14 := B14.out.r
  have lB14 := B14.out.lt
  clear B14'
  clear hg
  unfold Hd.v
  go_wp2_with (go_at_call 24; refine stop_of ?_)
  unfold Stop
  refine Calls_abs ?_
  intro X5 hX
  have gX : Grew W4 X5 := by rw [hX]; exact (by repeat (first | with_reducible exact Grew.refl _ | with_reducible apply Grew.alloc | with_reducible apply Grew.grow | with_reducible apply Grew.drew | with_reducible apply Grew.drewN))
  have GG' := GG.out.trans gX
  have B3' := B3.out.grew gX
  have S1' := S1.out.grew gX
  have S2' := S2.out.grew gX
  have B12' := B12.out.grew gX
  have B14' := B14.out.grew gX
  have B16' : HBox M X5 W4.heap.size := by rw [hX]; exact HBox.made _ _
  obtain ⟨gB16, hgB16⟩ : ∃ g, W4.heap.size = g := ⟨_, rfl⟩
  rw [hgB16] at B16' ⊢
  clear hgB16
  clear hX gX GG B3 S1 S2 B12 B14 rB3 lB3 rB12 lB12 rB14 lB14
  refine (CN.out X5).mono ?_
  rintro e W5 ⟨rfl, hg⟩
  have GG := Lib.hid (GG'.trans hg)
  clear GG'
  have B3 := Lib.hid (B3'.grew hg)
  have rB3 := B3.out.r
  have lB3 := B3.out.lt
  clear B3'
  have S1 := Lib.hid (S1'.grew hg)
  clear S1'
  have S2 := Lib.hid (S2'.grew hg)
  clear S2'
  have B12 := Lib.hid (B12'.grew hg)
  have rB12 := B12.out.r
  have lB12 := B12.out.lt
  clear B12'
  have B14 := Lib.hid (B14'.grew hg)
  have rB14 := B14.out.r
  have lB14 := B14.out.lt
  clear B14'
  have B16 := Lib.hid (B16'.grew hg)
  have rB16 := B16.out.r
  have lB16 := B16.out.lt
  clear B16'
  clear hg
  unfold Hd.v
  go_wp2_with (go_at_call 25; refine stop_of ?_)
  unfold Stop
  refine Calls_abs ?_
  intro X6 hX
  have gX : Grew W5 X6 := by rw [hX]; exact (by repeat (first | with_reducible exact Grew.refl _ | with_reducible apply Grew.alloc | with_reducible apply Grew.grow | with_reducible apply Grew.drew | with_reducible apply Grew.drewN))
  have GG' := GG.out.trans gX
  have B3' := B3.out.grew gX
  have S1' := S1.out.grew gX
  have S2' := S2.out.grew gX
  have B12' := B12.out.grew gX
  have B14' := B14.out.grew gX
  have B16' := B16.out.grew gX
  have B18' : HBox M X6 W5.heap.size := by rw [hX]; exact HBox.made _ _
  obtain ⟨gB18, hgB18⟩ : ∃ g, W5.heap.size = g := ⟨_, rfl⟩
  rw [hgB18] at B18' ⊢
  clear hgB18
  clear hX gX GG B3 S1 S2 B12 B14 B16 rB3 lB3 rB12 lB12 rB14 lB14 rB16 lB16
  refine (C8.out X6).mono ?_
  rintro e W6 ⟨rfl, hg⟩
  have GG := Lib.hid (GG'.trans hg)
  clear GG'
  have B3 := Lib.hid (B3'.grew hg)
  have rB3 := B3.out.r
  have lB3 := B3.out.lt
  clear B3'
  have S1 := Lib.hid (S1'.grew hg)
  clear S1'
  have S2 := Lib.hid (S2'.grew hg)
  clear S2'
  have B12 := Lib.hid (B12'.grew hg)
  have rB12 := B12.out.r
  have lB12 := B12.out.lt
  clear B12'
  have B14 := Lib.hid (B14'.grew hg)
  have rB14 := B14.out.r
  have lB14 := B14.out.lt
  clear B14'
  have B16 := Lib.hid (B16'.grew hg)
  have rB16 := B16.out.r
  have lB16 := B16.out.lt
  clear B16'
  have B18 := Lib.hid (B18'.grew hg)
  have rB18 := B18.out.r
  have lB18 := B18.out.lt
  clear B18'
  clear hg
  obtain ⟨p1, k1, rfl, _, sv⟩ := S1.out
  have t1 := shows_string sv
  clear sv
  obtain ⟨p2, k2, rfl, _, sv⟩ := S2.out
  have t2 := shows_string sv
  clear sv
  go_wp2
  first | refine wp_region_pure_lit_g (by kernel_rfl) (by kernel_rfl) ?_ | refine wp_region_pure_lit (by kernel_rfl) (by kernel_rfl) ?_
  repeat (go_big_quiet_step ((first | (go_at_call 12; exact Calls.pure_of (C1.out _)) | (go_at_call 26; exact Calls.pure_of (C2.out _)) | (go_at_call 15; exact Calls.pure_of (C3.out _)) | (go_at_call 27; exact Calls.pure_of (C4.out _)) | (go_at_call 17; exact Calls.pure_of (C5.out _)) | (go_at_call 28; exact Calls.pure_of (C6.out _)) | (go_at_call 16; exact Calls.pure_of (C7.out _)))))
  refine wpQuiet_nil ?_
  intro _ hw'
  obtain ⟨δ1, hw''⟩ := hw'
  subst hw''
  go_wp2
  go_ret
  exact ⟨rfl, GG.out.trans (by repeat (first | with_reducible exact Grew.refl _ | with_reducible apply Grew.alloc | with_reducible apply Grew.grow | with_reducible apply Grew.drew | with_reducible apply Grew.drewN))⟩
end Go.Proofs.Ytommbfgagalckaa
namespace Go.Proofs.Ytommbfgagalckaa.headTells
set_option linter.unusedVariables false
set_option linter.unusedSimpArgs false
open Go.ChangeShapes Go.WideShapes Go.ChangeAt Go.RowKit

set_option maxRecDepth 100000 in
theorem lifted (os : Os) (started : os.Started) (H : Type) (enc : TypeId × Value → H) :
    ReturnsInHanded {} Try.checked os 7 .any (Rows.headTellsSpec.pre6 enc Try.prog Try.f7 Rows.headTellsRow.domain false) (Rows.headTellsSpec.post enc Try.prog Try.f7 false true false false) := by
  refine returnsInHanded_of_change (C := Try.checked) own started (by kernel_rfl) Try.func7
    (ChangeSpec.witness6 (enc := enc) (C := Try.checked) false ⟨#[], #[.agg (hda 0 id0 id0 id0 id0 0 0 0), .slice none 0 0, .int .i64 0], []⟩ 8 (by kernel_rfl) (by kernel_rfl) (by kernel_rfl) (by kernel_rfl)) ?_
  intro W base args ds gs before hval0 hW _ _
  have hval : ∀ (j : Nat) t v, Try.f7.params[j]? = some t → args[j]? = some v → Value.okWide Try.prog W .any base t v := hval0
  have hW' := hW
  obtain ⟨p, q, hA0, hV, rfl, hfz, hnd⟩ := hW
  have hA : DataW.TrodAll enc Try.prog W 0 (fun _ => true) true Try.f7.params.toList args.toList ds p := hA0
  have hAk := hA
  rw [Try.params7] at hA hval
  obtain ⟨v0, vs0, d0, ds0, p0, q0, hargs0, rfl, rfl, h0, r0⟩ := trodAll_cons hA
  obtain ⟨v1, vs1, d1, ds1, p1, q1, hargs1, rfl, rfl, h1, r1⟩ := trodAll_cons r0
  obtain ⟨v2, vs2, d2, ds2, p2, q2, hargs2, rfl, rfl, h2, r2⟩ := trodAll_cons r1
  obtain ⟨rfl, rfl, rfl⟩ := trodAll_nil r2
  subst hargs2
  subst hargs1
  obtain rfl : args = #[v0, v1, v2] := by cases args; simp_all
  obtain ⟨rfl, rfl⟩ := trodVars_none hV
  obtain ⟨a0, rfl⟩ := open_head (hval 0 29 v0 rfl rfl) h0
  obtain ⟨q1', n1', c1', rfl⟩ := okWide_slice Try.underlying30 (hval 1 30 v1 rfl rfl)
  obtain ⟨aq1, ac1, al1, ae1, ab1, am1, as1, ax1⟩ := open_bytesc h1 rfl
  rw [ae1]
  obtain ⟨a2, rfl, rfl, _, w2⟩ := open_int Try.underlying3 (hval 2 3 v2 rfl rfl) h2
  simp only [List.append_nil] at hW'
  refine (headTells_walk a0 aq1 ac1 al1 ab1 am1 a2 W as1 ax1).mono fun e W' ⟨he, hg⟩ => ?_
  subst he
  rw [← ae1]
  exact ⟨_, rfl, post_of_stays hW' rfl (by simpa using hAk) (types_ok _ (by rw [Try.params7]; kernel_rfl)) rfl rfl (fun _ _ _ => (trodAll_cons_mk (shut_bool Try.underlying4 _) trodAll_mk0))
    hg (ok_one (by kernel_rfl) rfl (okWide_bool_mk Try.underlying4 _))⟩

theorem proved : Rows.HeadTellsSaid :=
  OpenClaim.holds_of_wide 7 Try.f7 rfl rfl rfl rfl rfl rfl rfl ⟨rfl, rfl, rfl, rfl, rfl⟩ rfl rfl rfl rfl rfl (by kernel_rfl) Try.func7 (by kernel_rfl)
    (of_decide_eq_true (by kernel_rfl)) (by unfold Func.isWrapper; first | (rw [if_pos (by decide +kernel)]; kernel_rfl) | (rw [if_neg (by decide +kernel)]; exact ⟨rfl, rfl⟩))
    (fun os started H enc _ => lifted os started H enc)
end Go.Proofs.Ytommbfgagalckaa.headTells
