/- 'stepladderlaw08.HeadBack' answers true for every head, head, slice of bytes, without panicking, and what it was handed reads as before. Conditions: none. -/
import Derived.Test.YtommbfgagalckaaRows
import Derived.Test.YtommbfgagalckaaM6
/- HeadBack: the walk. -/
namespace Go.Proofs.Ytommbfgagalckaa
open Go.RowKit
set_option maxRecDepth 100000
set_option linter.unusedVariables false
set_option linter.unusedSimpArgs false
set_option maxHeartbeats 6400000 in
theorem headBack_walk (h g : Hd) (q : Option Addr) (c : Nat) (l : List Nat) (hb : ∀ x ∈ l, x < 256) (hm : l.length ≤ maxLen) (w : World) (hs : Shows w (.slice q l.length c) (bys l)) (hx : l.length ≤ c) :
    Calls Try.prog 3 #[h.v, g.v, .slice q l.length c] w fun e w' => e = .returned (.bool true) ∧ Grew w w' := by
  have SB0 := Lib.hid (show ShowsC w (.slice q l.length c) l from ⟨q, c, rfl, hx, hs⟩)
  have hC0 : ((hread l).isSome = false ∧ hrd l = Hd.zero) ∨ ((hread l).isSome = true ∧ hok (hrd l) = true ∧ hpL (hrd l) = l) := by
    cases hr : hread l with
    | none => exact .inl ⟨rfl, by unfold hrd; rw [hr]; rfl⟩
    | some y =>
      obtain ⟨h1, h2⟩ := hput_read hb hr
      have e : hrd l = y := by unfold hrd; rw [hr]; rfl
      rw [e]
      exact .inr ⟨rfl, h1, by rw [hpL_ok h1, h2]⟩
  have hO0 : (hok h = false ∧ (decide (0 ≤ h.ht) = false ∨ (decide (0 ≤ h.ht) = true ∧ decide (h.ht ≤ 1048576) = false))) ∨ (hok h = true ∧ decide (0 ≤ h.ht) = true ∧ decide (h.ht ≤ 1048576) = true ∧ (hpL h).length = 176 ∧ hrd (hpL h) = h ∧ (hread (hpL h)).isSome = true ∧
      (hok g = false ∨ (hok g = true ∧ ∃ B : Bool, ((bstr (hpL h)).toList == (bstr (hpL g)).toList) = B ∧ Hd.eq h g = B))) := by
    by_cases h1 : 0 ≤ h.ht
    · by_cases h2 : h.ht ≤ 1048576
      · have ho : hok h = true := decide_eq_true ⟨h1, h2⟩
        refine .inr ⟨ho, decide_eq_true h1, decide_eq_true h2, by rw [hpL_ok ho]; exact hputL_len h, ?_, ?_, ?_⟩
        · rw [hpL_ok ho]; unfold hrd; rw [hread_put h ho]; rfl
        · rw [hpL_ok ho, hread_put h ho]; rfl
        · cases hg : hok g
          · exact .inl rfl
          · refine .inr ⟨rfl, _, eq_bstr _ _ (hpL_lt h) (hpL_lt g), ?_⟩
            rw [Bool.eq_iff_iff, Hd.eq_iff, decide_eq_true_eq, hpL_ok ho, hpL_ok hg]
            exact ⟨fun e => by rw [e], fun e => hput_inj ho hg e⟩
      · exact .inl ⟨decide_eq_false (fun e => h2 e.2), .inr ⟨decide_eq_true h1, decide_eq_false h2⟩⟩
    · exact .inl ⟨decide_eq_false (fun e => h1 e.1), .inl (decide_eq_false h1)⟩
  obtain ⟨R, hR⟩ : ∃ M, hrd l = M := ⟨_, rfl⟩
  obtain ⟨C, hC⟩ : ∃ M, (hread l).isSome = M := ⟨_, rfl⟩
  rw [hR, hC] at hC0
  have hPb := hpL_lt h
  have hPl := hpL_len h
  have CP := Lib.hid (fun W => hput_w h W)
  have CQ := Lib.hid (fun W => hput_w g W)
  have CX := Lib.hid (fun W v (s : ShowsC W v (hpL h)) => hread_w (hpL h) v W s hPb (by omega))
  have hln : ((l.length : Nat) : Int) ≤ 400 → l.length ≤ 1000000 := fun h => by omega
  have CR := Lib.hid (fun (hn : ((l.length : Nat) : Int) ≤ 400) W (g : ShowsC W (.slice q l.length c) l) => hread_w l _ W g hb (hln hn))
  rw [hR, hC] at CR
  have CY := Lib.hid (fun W => hput_w R W)
  obtain ⟨O, hO⟩ : ∃ M, hok h = M := ⟨_, rfl⟩
  obtain ⟨P, hP⟩ : ∃ M, hpL h = M := ⟨_, rfl⟩
  obtain ⟨O2, hO2⟩ : ∃ M, hok g = M := ⟨_, rfl⟩
  obtain ⟨Q, hQ⟩ : ∃ M, hpL g = M := ⟨_, rfl⟩
  obtain ⟨O3, hO3⟩ : ∃ M, hok R = M := ⟨_, rfl⟩
  obtain ⟨S, hS⟩ : ∃ M, hpL R = M := ⟨_, rfl⟩
  rw [hO, hP] at CP
  rw [hO2, hQ] at CQ
  rw [hO3, hS] at CY hC0
  rw [hP] at CX
  rw [hO, hP, hO2, hQ] at hO0
  obtain ⟨Z, hZ⟩ : ∃ M, hrd P = M := ⟨_, rfl⟩
  obtain ⟨D, hD⟩ : ∃ M, (hread P).isSome = M := ⟨_, rfl⟩
  rw [hZ, hD] at CX hO0
  have OO := Lib.hid hO0
  have CC := Lib.hid hC0
  have e3 : Hd.eq h h = true := (Hd.eq_iff h h).2 rfl
  have ez : ∀ W, (binOp .eql 29 (.agg (hda R.ht R.a.l R.b.l R.c.l R.d.l R.w.n R.bi R.no)) (.agg (hda 0 id0 id0 id0 id0 0 0 0))).run Try.prog W = .ok (.bool (Hd.eq R Hd.zero)) W := fun W => eql_head R Hd.zero W
  have EZ := Lib.hid ez
  have ha0 := h.a.len
  have hb0 := h.b.len
  have hc0 := h.c.len
  have hd0 := h.d.len
  have ha1 := g.a.len
  have hb1 := g.b.len
  have hc1 := g.c.len
  have hd1 := g.d.len
  have ha2 := R.a.len
  have hb2 := R.b.len
  have hc2 := R.c.len
  have hd2 := R.d.len
  have ha3 := Z.a.len
  have hb3 := Z.b.len
  have hc3 := Z.c.len
  have hd3 := Z.d.len
  obtain ⟨N, hN⟩ : ∃ N, l.length = N := ⟨_, rfl⟩
  rw [hN] at SB0 CR
  rw [hN]
  clear hR hC hO hP hO2 hQ hO3 hS hZ hD hs hx hln hm hN hb hC0 hO0 hPb hPl ez
  unfold Hd.v
  go_enter Try.func3, Try.ntmps3
  go_wp2_with (go_at_call 9; refine stop_of ?_)
  unfold Stop
  refine Calls_abs ?_
  intro X hX
  have GG' : Grew w X := by rw [hX]; exact (by repeat (first | with_reducible exact Grew.refl _ | with_reducible apply Grew.alloc | with_reducible apply Grew.grow | with_reducible apply Grew.drew | with_reducible apply Grew.drewN))
  have B3' : HBox h X (w.heap.size) := ⟨by rw [hX]; simp [go_sem], by rw [hX]; simp only [World.size_alloc]; omega⟩
  obtain ⟨gB3, hgB3⟩ : ∃ g, w.heap.size = g := ⟨_, rfl⟩
  have B4' : HBox g X (w.heap.size + 1) := ⟨by rw [hX]; simp [go_sem], by rw [hX]; simp only [World.size_alloc]; omega⟩
  obtain ⟨gB4, hgB4⟩ : ∃ g, w.heap.size + 1 = g := ⟨_, rfl⟩
  rw [hgB4] at B4' ⊢
  rw [hgB3] at B3' ⊢
  clear hgB3
  clear hgB4
  clear hX
  refine (awake_w X).mono ?_
  rintro e W ⟨rfl, hg⟩
  have GG := Lib.hid (GG'.trans hg)
  clear GG'
  have B3 := Lib.hid (B3'.grew hg)
  have rB3 := B3.out.r
  have lB3 := B3.out.lt
  clear B3'
  have B4 := Lib.hid (B4'.grew hg)
  have rB4 := B4.out.r
  have lB4 := B4.out.lt
  clear B4'
  clear hg
  have SB := Lib.hid (SB0.out.grew GG.out)
  clear SB0
  by_cases hn : (N : Int) ≤ 400
  rotate_left
  · go_wp2
    go_ret
    exact ⟨rfl, GG.out.trans (by repeat (first | with_reducible exact Grew.refl _ | with_reducible apply Grew.alloc | with_reducible apply Grew.grow | with_reducible apply Grew.drew | with_reducible apply Grew.drewN))⟩
  go_wp2_with (go_at_call 10; refine stop_of ?_)
  unfold Stop
  refine Calls_abs ?_
  intro X0 hX
  have gX : Grew W X0 := by rw [hX]; exact (by repeat (first | with_reducible exact Grew.refl _ | with_reducible apply Grew.alloc | with_reducible apply Grew.grow | with_reducible apply Grew.drew | with_reducible apply Grew.drewN))
  have GG' := GG.out.trans gX
  have B3' := B3.out.grew gX
  have B4' := B4.out.grew gX
  have SB' := SB.out.grew gX
  clear hX gX GG B3 B4 SB rB3 lB3 rB4 lB4
  refine (CP.out X0).mono ?_
  rintro e W0 ⟨v1, rfl, sv, hg⟩
  have GG := Lib.hid (GG'.trans hg)
  clear GG'
  have B3 := Lib.hid (B3'.grew hg)
  have rB3 := B3.out.r
  have lB3 := B3.out.lt
  clear B3'
  have B4 := Lib.hid (B4'.grew hg)
  have rB4 := B4.out.r
  have lB4 := B4.out.lt
  clear B4'
  have SB := Lib.hid (SB'.grew hg)
  clear SB'
  have S1 := Lib.hid sv
  clear sv
  clear hg
  go_wp2_with (go_at_call 10; refine stop_of ?_)
  unfold Stop
  refine Calls_abs ?_
  intro X1 hX
  have gX : Grew W0 X1 := by rw [hX]; exact (by repeat (first | with_reducible exact Grew.refl _ | with_reducible apply Grew.alloc | with_reducible apply Grew.grow | with_reducible apply Grew.drew | with_reducible apply Grew.drewN))
  have GG' := GG.out.trans gX
  have B3' := B3.out.grew gX
  have B4' := B4.out.grew gX
  have SB' := SB.out.grew gX
  have S1' := S1.out.grew gX
  clear hX gX GG B3 B4 SB S1 rB3 lB3 rB4 lB4
  refine (CQ.out X1).mono ?_
  rintro e W1 ⟨v2, rfl, sv, hg⟩
  have GG := Lib.hid (GG'.trans hg)
  clear GG'
  have B3 := Lib.hid (B3'.grew hg)
  have rB3 := B3.out.r
  have lB3 := B3.out.lt
  clear B3'
  have B4 := Lib.hid (B4'.grew hg)
  have rB4 := B4.out.r
  have lB4 := B4.out.lt
  clear B4'
  have SB := Lib.hid (SB'.grew hg)
  clear SB'
  have S1 := Lib.hid (S1'.grew hg)
  clear S1'
  have S2 := Lib.hid sv
  clear sv
  clear hg
  go_wp2_with (go_at_call 11; refine stop_of ?_)
  unfold Stop
  refine Calls_abs ?_
  intro X2 hX
  have gX : Grew W1 X2 := by rw [hX]; exact (by repeat (first | with_reducible exact Grew.refl _ | with_reducible apply Grew.alloc | with_reducible apply Grew.grow | with_reducible apply Grew.drew | with_reducible apply Grew.drewN))
  have GG' := GG.out.trans gX
  have B3' := B3.out.grew gX
  have B4' := B4.out.grew gX
  have SB' := SB.out.grew gX
  have S1' := S1.out.grew gX
  have S2' := S2.out.grew gX
  clear hX gX GG B3 B4 SB S1 S2 rB3 lB3 rB4 lB4
  refine (CX.out X2 _ S1').mono ?_
  rintro e W2 ⟨rfl, hg⟩
  have GG := Lib.hid (GG'.trans hg)
  clear GG'
  have B3 := Lib.hid (B3'.grew hg)
  have rB3 := B3.out.r
  have lB3 := B3.out.lt
  clear B3'
  have B4 := Lib.hid (B4'.grew hg)
  have rB4 := B4.out.r
  have lB4 := B4.out.lt
  clear B4'
  have SB := Lib.hid (SB'.grew hg)
  clear SB'
  have S1 := Lib.hid (S1'.grew hg)
  clear S1'
  have S2 := Lib.hid (S2'.grew hg)
  clear S2'
  clear hg
  unfold Hd.v
  go_wp2_with (go_at_call 11; refine stop_of ?_)
  unfold Stop
  refine Calls_abs ?_
  intro X3 hX
  have gX : Grew W2 X3 := by rw [hX]; exact (by repeat (first | with_reducible exact Grew.refl _ | with_reducible apply Grew.alloc | with_reducible apply Grew.grow | with_reducible apply Grew.drew | with_reducible apply Grew.drewN))
  have GG' := GG.out.trans gX
  have B3' := B3.out.grew gX
  have B4' := B4.out.grew gX
  have SB' := SB.out.grew gX
  have S1' := S1.out.grew gX
  have S2' := S2.out.grew gX
  have B12' : HBox Z X3 W2.heap.size := by rw [hX]; exact HBox.made _ _
  obtain ⟨gB12, hgB12⟩ : ∃ g, W2.heap.size = g := ⟨_, rfl⟩
  rw [hgB12] at B12' ⊢
  clear hgB12
  clear hX gX GG B3 B4 SB S1 S2 rB3 lB3 rB4 lB4
  refine (CR.out hn X3 SB').mono ?_
  rintro e W3 ⟨rfl, hg⟩
  have GG := Lib.hid (GG'.trans hg)
  clear GG'
  have B3 := Lib.hid (B3'.grew hg)
  have rB3 := B3.out.r
  have lB3 := B3.out.lt
  clear B3'
  have B4 := Lib.hid (B4'.grew hg)
  have rB4 := B4.out.r
  have lB4 := B4.out.lt
  clear B4'
  have SB := Lib.hid (SB'.grew hg)
  clear SB'
  have S1 := Lib.hid (S1'.grew hg)
  clear S1'
  have S2 := Lib.hid (S2'.grew hg)
  clear S2'
  have B12 := Lib.hid (B12'.grew hg)
  have rB12 := B12.out.r
  have lB12 := B12.out.lt
  clear B12'
  clear hg
  unfold Hd.v
  go_wp2_with (go_at_call 10; refine stop_of ?_)
  unfold Stop
  refine Calls_abs ?_
  intro X4 hX
  have gX : Grew W3 X4 := by rw [hX]; exact (by repeat (first | with_reducible exact Grew.refl _ | with_reducible apply Grew.alloc | with_reducible apply Grew.grow | with_reducible apply Grew.drew | with_reducible apply Grew.drewN))
  have GG' := GG.out.trans gX
  have B3' := B3.out.grew gX
  have B4' := B4.out.grew gX
  have SB' := SB.out.grew gX
  have S1' := S1.out.grew gX
  have S2' := S2.out.grew gX
  have B12' := B12.out.grew gX
  have B14' : HBox R X4 W3.heap.size := by rw [hX]; exact HBox.made _ _
  obtain ⟨gB14, hgB14⟩ : ∃ g, W3.heap.size = g := ⟨_, rfl⟩
  rw [hgB14] at B14' ⊢
  clear hgB14
  clear hX gX GG B3 B4 SB S1 S2 B12 rB3 lB3 rB4 lB4 rB12 lB12
  refine (CY.out X4).mono ?_
  rintro e W4 ⟨v3, rfl, sv, hg⟩
  have GG := Lib.hid (GG'.trans hg)
  clear GG'
  have B3 := Lib.hid (B3'.grew hg)
  have rB3 := B3.out.r
  have lB3 := B3.out.lt
  clear B3'
  have B4 := Lib.hid (B4'.grew hg)
  have rB4 := B4.out.r
  have lB4 := B4.out.lt
  clear B4'
  have SB := Lib.hid (SB'.grew hg)
  clear SB'
  have S1 := Lib.hid (S1'.grew hg)
  clear S1'
  have S2 := Lib.hid (S2'.grew hg)
  clear S2'
  have B12 := Lib.hid (B12'.grew hg)
  have rB12 := B12.out.r
  have lB12 := B12.out.lt
  clear B12'
  have B14 := Lib.hid (B14'.grew hg)
  have rB14 := B14.out.r
  have lB14 := B14.out.lt
  clear B14'
  have S3 := Lib.hid sv
  clear sv
  clear hg
  obtain ⟨p1, k1, rfl, _, sv⟩ := S1.out
  have t1 := conv_str sv
  clear sv
  obtain ⟨p2, k2, rfl, _, sv⟩ := S2.out
  have t2 := conv_str sv
  clear sv
  obtain ⟨p3, k3, rfl, _, sv⟩ := S3.out
  have t3 := conv_str sv
  clear sv
  obtain ⟨p4, k4, e4, _, sv⟩ := SB.out
  have t4 := conv_str sv
  rw [← e4] at t4
  clear sv e4
  have cB3 := B3.out.c0
  have oo := OO.out
  clear OO
  go_wp2
  rcases oo with ⟨rfl, f1 | ⟨f1, f2⟩⟩ | ⟨rfl, f1, f2, f3, rfl, rfl, ⟨rfl⟩ | ⟨rfl, B, f4, f5⟩⟩
  all_goals
    have T3 := Lib.hid t3
    have T4 := Lib.hid t4
    clear t3 t4
    try (rw [f3] at t1 ⊢; clear f3)
    first | refine wp_region_pure_lit_g (by kernel_rfl) (by kernel_rfl) ?_ | refine wp_region_pure_lit (by kernel_rfl) (by kernel_rfl) ?_
    repeat (go_big_quiet_step ((fail)))
    refine wpQuiet_nil ?_
    intro _ hw'
    obtain ⟨δ1, hw''⟩ := hw'
    subst hw''
    have cc := CC.out
    clear CC t1 t2
    rcases cc with ⟨rfl, rfl⟩ | ⟨rfl, rfl, rfl⟩
    · have ez := EZ.out
      have e6 : Hd.eq Hd.zero Hd.zero = true := (Hd.eq_iff _ _).2 rfl
      clear T3 T4
      go_wp2
      go_ret
      exact ⟨rfl, GG.out.trans (by repeat (first | with_reducible exact Grew.refl _ | with_reducible apply Grew.alloc | with_reducible apply Grew.grow | with_reducible apply Grew.drew | with_reducible apply Grew.drewN))⟩
    · have t3 := T3.out δ1
      have t4 := T4.out δ1
      have e6 : ((bstr S).toList == (bstr S).toList) = true := by simp
      clear T3 T4
      go_wp2
      go_ret
      exact ⟨rfl, GG.out.trans (by repeat (first | with_reducible exact Grew.refl _ | with_reducible apply Grew.alloc | with_reducible apply Grew.grow | with_reducible apply Grew.drew | with_reducible apply Grew.drewN))⟩
end Go.Proofs.Ytommbfgagalckaa
namespace Go.Proofs.Ytommbfgagalckaa.headBack
set_option linter.unusedVariables false
set_option linter.unusedSimpArgs false
open Go.ChangeShapes Go.WideShapes Go.ChangeAt Go.RowKit

set_option maxRecDepth 100000 in
theorem lifted (os : Os) (started : os.Started) (H : Type) (enc : TypeId × Value → H) :
    ReturnsInHanded {} Try.checked os 3 .any (Rows.headBackSpec.pre6 enc Try.prog Try.f3 Rows.headBackRow.domain false) (Rows.headBackSpec.post enc Try.prog Try.f3 false true false false) := by
  refine returnsInHanded_of_change (C := Try.checked) own started (by kernel_rfl) Try.func3
    (ChangeSpec.witness6 (enc := enc) (C := Try.checked) false ⟨#[], #[.agg (hda 0 id0 id0 id0 id0 0 0 0), .agg (hda 0 id0 id0 id0 id0 0 0 0), .slice none 0 0], []⟩ 8 (by kernel_rfl) (by kernel_rfl) (by kernel_rfl) (by kernel_rfl)) ?_
  intro W base args ds gs before hval0 hW _ _
  have hval : ∀ (j : Nat) t v, Try.f3.params[j]? = some t → args[j]? = some v → Value.okWide Try.prog W .any base t v := hval0
  have hW' := hW
  obtain ⟨p, q, hA0, hV, rfl, hfz, hnd⟩ := hW
  have hA : DataW.TrodAll enc Try.prog W 0 (fun _ => true) true Try.f3.params.toList args.toList ds p := hA0
  have hAk := hA
  rw [Try.params3] at hA hval
  obtain ⟨v0, vs0, d0, ds0, p0, q0, hargs0, rfl, rfl, h0, r0⟩ := trodAll_cons hA
  obtain ⟨v1, vs1, d1, ds1, p1, q1, hargs1, rfl, rfl, h1, r1⟩ := trodAll_cons r0
  obtain ⟨v2, vs2, d2, ds2, p2, q2, hargs2, rfl, rfl, h2, r2⟩ := trodAll_cons r1
  obtain ⟨rfl, rfl, rfl⟩ := trodAll_nil r2
  subst hargs2
  subst hargs1
  obtain rfl : args = #[v0, v1, v2] := by cases args; simp_all
  obtain ⟨rfl, rfl⟩ := trodVars_none hV
  obtain ⟨a0, rfl⟩ := open_head (hval 0 29 v0 rfl rfl) h0
  obtain ⟨a1, rfl⟩ := open_head (hval 1 29 v1 rfl rfl) h1
  obtain ⟨q2', n2', c2', rfl⟩ := okWide_slice Try.underlying30 (hval 2 30 v2 rfl rfl)
  obtain ⟨aq2, ac2, al2, ae2, ab2, am2, as2, ax2⟩ := open_bytesc h2 rfl
  rw [ae2]
  simp only [List.append_nil] at hW'
  refine (headBack_walk a0 a1 aq2 ac2 al2 ab2 am2 W as2 ax2).mono fun e W' ⟨he, hg⟩ => ?_
  subst he
  rw [← ae2]
  exact ⟨_, rfl, post_of_stays hW' rfl (by simpa using hAk) (types_ok _ (by rw [Try.params3]; kernel_rfl)) rfl rfl (fun _ _ _ => (trodAll_cons_mk (shut_bool Try.underlying4 _) trodAll_mk0))
    hg (ok_one (by kernel_rfl) rfl (okWide_bool_mk Try.underlying4 _))⟩

theorem proved : Rows.HeadBackSaid :=
  OpenClaim.holds_of_wide 3 Try.f3 rfl rfl rfl rfl rfl rfl rfl ⟨rfl, rfl, rfl, rfl, rfl⟩ rfl rfl rfl rfl rfl (by kernel_rfl) Try.func3 (by kernel_rfl)
    (of_decide_eq_true (by kernel_rfl)) (by unfold Func.isWrapper; first | (rw [if_pos (by decide +kernel)]; kernel_rfl) | (rw [if_neg (by decide +kernel)]; exact ⟨rfl, rfl⟩))
    (fun os started H enc _ => lifted os started H enc)
end Go.Proofs.Ytommbfgagalckaa.headBack
