/- 'stepladderlaw08.HeadCut' answers true for every head, int, slice of bytes, without panicking, and what it was handed reads as before. Conditions: none. -/
import Derived.Test.YtommbfgagalckaaRows
import Derived.Test.YtommbfgagalckaaM6
/- HeadCut: the walk. -/
namespace Go.Proofs.Ytommbfgagalckaa
open Go.RowKit
set_option maxRecDepth 100000
set_option linter.unusedVariables false
set_option linter.unusedSimpArgs false
set_option maxHeartbeats 6400000 in
theorem headCut_walk (h : Hd) (k : Int) (q : Option Addr) (c : Nat) (l : List Nat) (hb : ∀ x ∈ l, x < 256) (hm : l.length ≤ maxLen) (w : World) (hs : Shows w (.slice q l.length c) (bys l)) (hx : l.length ≤ c) :
    Calls Try.prog 6 #[h.v, .int .i64 k, .slice q l.length c] w fun e w' => e = .returned (.bool true) ∧ Grew w w' := by
  obtain ⟨ib, hi, hz, hsz, hby⟩ := info_b
  have SB0 := Lib.hid (show ShowsC w (.slice q l.length c) l from ⟨q, c, rfl, hx, hs⟩)
  have facts : (hread l).isSome = false ∨ ((hread l).isSome = true ∧ (l.length : Int) = 176 ∧ 0 ≤ (hrd l).ht ∧ (hrd l).ht ≤ 1048576) := by
    cases hr : hread l with
    | none => exact .inl rfl
    | some g =>
      obtain ⟨h1, h2⟩ := hput_read hb hr
      refine .inr ⟨rfl, ?_, ?_⟩
      · rw [← h2, hputL_len]; rfl
      · have : hrd l = g := by unfold hrd; rw [hr]; rfl
        rw [this]
        exact of_decide_eq_true h1
  obtain ⟨R, hR⟩ : ∃ M, hrd l = M := ⟨_, rfl⟩
  obtain ⟨C, hC⟩ : ∃ M, (hread l).isSome = M := ⟨_, rfl⟩
  rw [hR, hC] at facts
  have hO2 : (hok h = false ∧ hpL h = []) ∨ (hok h = true ∧ (hpL h).length = 176) := by
    cases ho : hok h
    · exact .inl ⟨rfl, hpL_no ho⟩
    · exact .inr ⟨rfl, by rw [hpL_ok ho]; exact hputL_len h⟩
  have hPb := hpL_lt h
  obtain ⟨O, hO⟩ : ∃ M, hok h = M := ⟨_, rfl⟩
  obtain ⟨P, hP⟩ : ∃ M, hpL h = M := ⟨_, rfl⟩
  rw [hO, hP] at hO2
  rw [hP] at hPb
  have hPl : P.length ≤ 176 := by rcases hO2 with ⟨_, rfl⟩ | ⟨_, e⟩ <;> simp [*]
  have hne : hread (P ++ [0]) = none := hread_none (fun ⟨e, _⟩ => by
    rw [List.length_append] at e
    rcases hO2 with ⟨_, rfl⟩ | ⟨_, e2⟩
    · simp at e
    · rw [e2] at e; simp at e)
  have hPb0 : ∀ x ∈ P ++ [0], x < 256 := fun x hx => by
    rcases List.mem_append.1 hx with h | h
    · exact hPb x h
    · rw [List.mem_singleton.1 h]; decide
  have CP := Lib.hid (fun W => hput_w h W)
  rw [hO, hP] at CP
  have hln : ((l.length : Nat) : Int) ≤ 400 → l.length ≤ 1000000 := fun h => by omega
  have CR := Lib.hid (fun (hn : ((l.length : Nat) : Int) ≤ 400) W (g : ShowsC W (.slice q l.length c) l) => hread_w l _ W g hb (hln hn))
  rw [hR, hC] at CR
  have CL := Lib.hid (fun W v (g : ShowsC W v (P ++ [0])) => hread_w (P ++ [0]) v W g hPb0 (by rw [List.length_append]; simp; omega))
  rw [show hrd (P ++ [0]) = Hd.zero by unfold hrd; rw [hne]; rfl, hne] at CL
  have CK := Lib.hid (fun (n : Nat) (hn : n < 176) W v (g : ShowsC W v (P.take n)) => hread_w (P.take n) v W g (fun x hx => hPb x (List.mem_of_mem_take hx)) (by rw [List.length_take]; omega))
  have HK := Lib.hid (fun (n : Nat) (hn : n < 176) => (show hread (P.take n) = none from hread_none (fun ⟨e, _⟩ => by rw [List.length_take] at e; omega)))
  have PL := Lib.hid hPl
  have FA := Lib.hid facts
  have OO := Lib.hid hO2
  have hZa := Idb.zero.len
  have ha0 := h.a.len
  have hb0 := h.b.len
  have hc0 := h.c.len
  have hd0 := h.d.len
  have ha1 := R.a.len
  have hb1 := R.b.len
  have hc1 := R.c.len
  have hd1 := R.d.len
  have ha2 := Hd.zero.a.len
  have hb2 := Hd.zero.b.len
  have hc2 := Hd.zero.c.len
  have hd2 := Hd.zero.d.len
  obtain ⟨N, hN⟩ : ∃ N, l.length = N := ⟨_, rfl⟩
  rw [hN] at SB0 CR FA
  rw [hN]
  clear hR hC hO hP hs hx hln hm hN hb facts hO2 hPb hPl hne hPb0
  unfold Hd.v
  go_enter Try.func6, Try.ntmps6
  go_wp2_with (go_at_call 9; refine stop_of ?_)
  unfold Stop
  refine Calls_abs ?_
  intro X hX
  have GG' : Grew w X := by rw [hX]; exact (by repeat (first | with_reducible exact Grew.refl _ | with_reducible apply Grew.alloc | with_reducible apply Grew.grow | with_reducible apply Grew.drew | with_reducible apply Grew.drewN))
  have B3' : HBox h X (w.heap.size) := ⟨by rw [hX]; simp [go_sem], by rw [hX]; simp⟩
  obtain ⟨gB3, hgB3⟩ : ∃ g, w.heap.size = g := ⟨_, rfl⟩
  rw [hgB3] at B3' ⊢
  clear hgB3
  clear hX
  refine (awake_w X).mono ?_
  rintro e W ⟨rfl, hg⟩
  have GG := Lib.hid (GG'.trans hg)
  clear GG'
  have B3 := Lib.hid (B3'.grew hg)
  have rB3 := B3.out.r
  have lB3 := B3.out.lt
  clear B3'
  clear hg
  have SB := Lib.hid (SB0.out.grew GG.out)
  clear SB0
  go_wp2_with (go_at_call 10; refine stop_of ?_)
  unfold Stop
  refine Calls_abs ?_
  intro X0 hX
  have gX : Grew W X0 := by rw [hX]; exact (by repeat (first | with_reducible exact Grew.refl _ | with_reducible apply Grew.alloc | with_reducible apply Grew.grow | with_reducible apply Grew.drew | with_reducible apply Grew.drewN))
  have GG' := GG.out.trans gX
  have B3' := B3.out.grew gX
  have SB' := SB.out.grew gX
  clear hX gX GG B3 SB rB3 lB3
  refine (CP.out X0).mono ?_
  rintro e W0 ⟨v1, rfl, sv, hg⟩
  have GG := Lib.hid (GG'.trans hg)
  clear GG'
  have B3 := Lib.hid (B3'.grew hg)
  have rB3 := B3.out.r
  have lB3 := B3.out.lt
  clear B3'
  have SB := Lib.hid (SB'.grew hg)
  clear SB'
  have S1 := Lib.hid sv
  clear sv
  clear hg
  by_cases hn : (N : Int) ≤ 400
  rotate_left
  · go_wp2
    go_ret
    exact ⟨rfl, GG.out.trans (by repeat (first | with_reducible exact Grew.refl _ | with_reducible apply Grew.alloc | with_reducible apply Grew.grow | with_reducible apply Grew.drew | with_reducible apply Grew.drewN))⟩
  go_wp2_with (go_at_call 11; refine stop_of ?_)
  unfold Stop
  refine Calls_abs ?_
  intro X1 hX
  have gX : Grew W0 X1 := by rw [hX]; exact (by repeat (first | with_reducible exact Grew.refl _ | with_reducible apply Grew.alloc | with_reducible apply Grew.grow | with_reducible apply Grew.drew | with_reducible apply Grew.drewN))
  have GG' := GG.out.trans gX
  have B3' := B3.out.grew gX
  have SB' := SB.out.grew gX
  have S1' := S1.out.grew gX
  clear hX gX GG B3 SB S1 rB3 lB3
  refine (CR.out hn X1 SB').mono ?_
  rintro e W1 ⟨rfl, hg⟩
  have GG := Lib.hid (GG'.trans hg)
  clear GG'
  have B3 := Lib.hid (B3'.grew hg)
  have rB3 := B3.out.r
  have lB3 := B3.out.lt
  clear B3'
  clear SB'
  have S1 := Lib.hid (S1'.grew hg)
  clear S1'
  clear hg
  unfold Hd.v
  obtain ⟨p1, k1, rfl, hk1, sv1⟩ := S1.out
  have SV1 := Lib.hid (show Shows W1 (.slice p1 P.length k1) (bys P) from sv1)
  have K1 := Lib.hid hk1
  clear sv1 hk1 S1
  have fa := FA.out
  clear FA
  rcases fa with rfl | ⟨rfl, f1, f2, f3⟩
  all_goals
    go_wp2_with (at_builtin; refine stop_of ?_)
    unfold Stop
    refine wpList_abs ?_
    intro Y hY
    have gY : Grew W1 Y := by rw [hY]; exact (by repeat (first | with_reducible exact Grew.refl _ | with_reducible apply Grew.alloc | with_reducible apply Grew.grow | with_reducible apply Grew.drew | with_reducible apply Grew.drewN))
    have sv := SV1.out.grew gY
    have GY := Lib.hid (GG.out.trans gY)
    have GY1 := Lib.hid gY
    clear hY gY rB3 lB3
    have PLO := PL.out
    refine wpList_appends rfl _ _ _ rfl _ ib _ 1 under_bs hi hz hsz hby rfl Y Y _ _ rfl rfl [] (bys P) (Grew.refl _) (OwnR.nil _ _ _) (by exact sv) (bys_one _) (by rw [bys_len]; simp [maxLen]; omega) (by rw [bys_len]; simp; omega) ?_
    intro v2 W2 ho hg2
    rw [List.nil_append] at ho
    have HO := Lib.hid ho
    have HS := Lib.hid (sv.grew hg2)
    have G2 := Lib.hid hg2
    clear ho sv hg2 PLO
    go_wp2_with (at_builtin; refine stop_of ?_)
    unfold Stop
    have PLO := PL.out
    refine wpList_append1 rfl _ _ _ rfl _ ib _ 1 under_bs hi hz hsz hby rfl Y W2 _ _ rfl rfl (bys P) G2.out (by exact HO.out) rfl (by rw [bys_len]; simp only [maxLen]; omega) (by rw [bys_len]; omega) ?_
    intro v3 W3 ho hg3
    rw [show bys P ++ [Value.int .u8 0] = bys (P ++ [0]) by rw [bys_append]; rfl] at ho
    have HO3 := Lib.hid (ShowsC.own ho)
    have HS3 := Lib.hid (SV1.out.grew (GY1.out.trans hg3))
    have G3 := Lib.hid (GY.out.trans hg3)
    clear ho hg3 PLO HO HS G2 GY GY1 SV1
    go_wp2_with (go_at_call 11; refine stop_of ?_)
    unfold Stop
    refine (CL.out W3 v3 HO3.out).mono ?_
    rintro e W4 ⟨rfl, hg4⟩
    have HS4 := Lib.hid (HS3.out.grew hg4)
    have G4 := Lib.hid (G3.out.trans hg4)
    clear hg4 HO3 HS3 G3
    unfold Hd.v
    simp only [Option.isSome_none]
    rcases OO.out with ⟨rfl, rfl⟩ | ⟨rfl, hP⟩
    · go_wp2
      go_ret
      exact ⟨rfl, G4.out.trans (by repeat (first | with_reducible exact Grew.refl _ | with_reducible apply Grew.alloc | with_reducible apply Grew.grow | with_reducible apply Grew.drew | with_reducible apply Grew.drewN))⟩
    by_cases hk0 : k < 0
    · go_wp2
      go_ret
      exact ⟨rfl, G4.out.trans (by repeat (first | with_reducible exact Grew.refl _ | with_reducible apply Grew.alloc | with_reducible apply Grew.grow | with_reducible apply Grew.drew | with_reducible apply Grew.drewN))⟩
    by_cases hk2 : 176 ≤ k
    · have hk3 : ((P.length : Nat) : Int) ≤ k := by omega
      go_wp2
      go_ret
      exact ⟨rfl, G4.out.trans (by repeat (first | with_reducible exact Grew.refl _ | with_reducible apply Grew.alloc | with_reducible apply Grew.grow | with_reducible apply Grew.drew | with_reducible apply Grew.drewN))⟩
    obtain ⟨n, rfl⟩ : ∃ n : Nat, k = n := ⟨k.toNat, by omega⟩
    have hn7 : n < 176 := by omega
    obtain ⟨b, o, rfl, hbW, hat⟩ : ∃ b o, p1 = some ⟨b, o, none⟩ ∧ b < W4.heap.size ∧ ∀ j u, (bys P)[j]? = some u → W4.cell? ⟨b, o + j, none⟩ = some u := by
      rcases HS4.out with ⟨b, o, c', he, hb, hat⟩ | ⟨p', c', he, h0⟩
      · simp only [Value.slice.injEq] at he
        exact ⟨b, o, he.1, hb, hat⟩
      · have := congrArg List.length h0
        rw [bys_len, hP] at this
        simp at this
    have K1O := K1.out
    have hsT : ShowsC W4 (.slice (some ⟨b, o, none⟩) n k1) (P.take n) := by
      have hl : (P.take n).length = n := by rw [List.length_take]; omega
      refine ⟨some ⟨b, o, none⟩, k1, by rw [hl], by rw [hl]; omega, ?_⟩
      rw [hl]
      refine .inl ⟨b, o, k1, by rw [bys_len, hl], hbW, fun j u hj => hat j u ?_⟩
      unfold bys at hj ⊢
      rw [List.getElem?_map] at hj ⊢
      rw [List.getElem?_take] at hj
      by_cases hjn : j < n
      · rwa [if_pos hjn] at hj
      · rw [if_neg hjn] at hj; cases hj
    have HT := Lib.hid hsT
    have hk5 : (n : Int) ≤ (k1 : Int) := by omega
    have hk6 : (n : Int) < ((P.length : Nat) : Int) := by omega
    have HN := Lib.hid hn7
    clear hsT hat hbW K1O HS4 hn7 hk2 hk0
    go_wp2_with (go_at_call 11; refine stop_of ?_)
    unfold Stop
    refine Calls_abs ?_
    intro X2 hX
    have gX : Grew W4 X2 := by rw [hX]; exact (by repeat (first | with_reducible exact Grew.refl _ | with_reducible apply Grew.alloc | with_reducible apply Grew.grow | with_reducible apply Grew.drew | with_reducible apply Grew.drewN))
    refine (CK.out n HN.out X2 _ (HT.out.grew gX)).mono ?_
    rintro e W5 ⟨rfl, hg⟩
    have G5 := Lib.hid (G4.out.trans (gX.trans hg))
    rw [show hrd (P.take n) = Hd.zero by unfold hrd; rw [HK.out n HN.out]; rfl, HK.out n HN.out]
    clear hX gX hg
    unfold Hd.v
    go_wp2
    go_ret
    exact ⟨rfl, G5.out.trans (by repeat (first | with_reducible exact Grew.refl _ | with_reducible apply Grew.alloc | with_reducible apply Grew.grow | with_reducible apply Grew.drew | with_reducible apply Grew.drewN))⟩
end Go.Proofs.Ytommbfgagalckaa
namespace Go.Proofs.Ytommbfgagalckaa.headCut
set_option linter.unusedVariables false
set_option linter.unusedSimpArgs false
open Go.ChangeShapes Go.WideShapes Go.ChangeAt Go.RowKit

set_option maxRecDepth 100000 in
theorem lifted (os : Os) (started : os.Started) (H : Type) (enc : TypeId × Value → H) :
    ReturnsInHanded {} Try.checked os 6 .any (Rows.headCutSpec.pre6 enc Try.prog Try.f6 Rows.headCutRow.domain false) (Rows.headCutSpec.post enc Try.prog Try.f6 false true false false) := by
  refine returnsInHanded_of_change (C := Try.checked) own started (by kernel_rfl) Try.func6
    (ChangeSpec.witness6 (enc := enc) (C := Try.checked) false ⟨#[], #[.agg (hda 0 id0 id0 id0 id0 0 0 0), .int .i64 0, .slice none 0 0], []⟩ 8 (by kernel_rfl) (by kernel_rfl) (by kernel_rfl) (by kernel_rfl)) ?_
  intro W base args ds gs before hval0 hW _ _
  have hval : ∀ (j : Nat) t v, Try.f6.params[j]? = some t → args[j]? = some v → Value.okWide Try.prog W .any base t v := hval0
  have hW' := hW
  obtain ⟨p, q, hA0, hV, rfl, hfz, hnd⟩ := hW
  have hA : DataW.TrodAll enc Try.prog W 0 (fun _ => true) true Try.f6.params.toList args.toList ds p := hA0
  have hAk := hA
  rw [Try.params6] at hA hval
  obtain ⟨v0, vs0, d0, ds0, p0, q0, hargs0, rfl, rfl, h0, r0⟩ := trodAll_cons hA
  obtain ⟨v1, vs1, d1, ds1, p1, q1, hargs1, rfl, rfl, h1, r1⟩ := trodAll_cons r0
  obtain ⟨v2, vs2, d2, ds2, p2, q2, hargs2, rfl, rfl, h2, r2⟩ := trodAll_cons r1
  obtain ⟨rfl, rfl, rfl⟩ := trodAll_nil r2
  subst hargs2
  subst hargs1
  obtain rfl : args = #[v0, v1, v2] := by cases args; simp_all
  obtain ⟨rfl, rfl⟩ := trodVars_none hV
  obtain ⟨a0, rfl⟩ := open_head (hval 0 29 v0 rfl rfl) h0
  obtain ⟨a1, rfl, rfl, _, w1⟩ := open_int Try.underlying3 (hval 1 3 v1 rfl rfl) h1
  obtain ⟨q2', n2', c2', rfl⟩ := okWide_slice Try.underlying30 (hval 2 30 v2 rfl rfl)
  obtain ⟨aq2, ac2, al2, ae2, ab2, am2, as2, ax2⟩ := open_bytesc h2 rfl
  rw [ae2]
  simp only [List.append_nil] at hW'
  refine (headCut_walk a0 a1 aq2 ac2 al2 ab2 am2 W as2 ax2).mono fun e W' ⟨he, hg⟩ => ?_
  subst he
  rw [← ae2]
  exact ⟨_, rfl, post_of_stays hW' rfl (by simpa using hAk) (types_ok _ (by rw [Try.params6]; kernel_rfl)) rfl rfl (fun _ _ _ => (trodAll_cons_mk (shut_bool Try.underlying4 _) trodAll_mk0))
    hg (ok_one (by kernel_rfl) rfl (okWide_bool_mk Try.underlying4 _))⟩

theorem proved : Rows.HeadCutSaid :=
  OpenClaim.holds_of_wide 6 Try.f6 rfl rfl rfl rfl rfl rfl rfl ⟨rfl, rfl, rfl, rfl, rfl⟩ rfl rfl rfl rfl rfl (by kernel_rfl) Try.func6 (by kernel_rfl)
    (of_decide_eq_true (by kernel_rfl)) (by unfold Func.isWrapper; first | (rw [if_pos (by decide +kernel)]; kernel_rfl) | (rw [if_neg (by decide +kernel)]; exact ⟨rfl, rfl⟩))
    (fun os started H enc _ => lifted os started H enc)
end Go.Proofs.Ytommbfgagalckaa.headCut
