/- 'stepladderlaw04.BinNumbers' answers true for every number of 64 bits, int, slice of bytes, int, without panicking, and what it was handed reads as before. Conditions: none. -/
import Derived.Test.YtccadhfeiehmbaaRows
import Derived.Test.YtccadhfeiehmbaaM3
/- BinNumbers: the walk. -/
namespace Go.Proofs.Ytccadhfeiehmbaa
open Go.RowKit
set_option maxRecDepth 100000
set_option linter.unusedVariables false
set_option linter.unusedSimpArgs false
set_option maxHeartbeats 6400000 in
theorem binNumbers_walk (n : Nat) (hn : n < 18446744073709551616) (size : Int) (q : Option Addr) (c : Nat) (l : List Nat) (hb : ∀ x ∈ l, x < 256) (hm : l.length ≤ maxLen) (at_ : Int) (w : World) (hs : Shows w (.slice q l.length c) (bys l)) (hx : l.length ≤ c) :
    Calls Try.prog 3 #[.int .u64 n, .int .i64 size, .slice q l.length c, .int .i64 at_] w fun e w' => e = .returned (.bool true) ∧ Grew w w' := by
  obtain ⟨ib, hi, hz, hsz, hby⟩ := info_b
  have HS := Lib.hid hs
  have HB := Lib.hid hb
  obtain ⟨N, hN⟩ : ∃ N, l.length = N := ⟨_, rfl⟩
  have HN := Lib.hid hN
  rw [hN] at HS hx ⊢
  have HX := Lib.hid hx
  clear hs hb hm hN hx
  go_enter Try.func3, Try.ntmps3
  go_wp2_with (go_at_call 5; refine stop_of ?_)
  unfold Stop
  refine (awake_w w).mono ?_
  rintro e W0 ⟨rfl, hg⟩
  have G0 := Lib.hid hg
  clear hg
  by_cases h7 : (N : Int) ≤ 700
  rotate_left
  · go_wp2
    go_ret
    exact ⟨rfl, G0.out.trans (by repeat (first | with_reducible exact Grew.refl _ | with_reducible apply Grew.alloc | with_reducible apply Grew.grow | with_reducible apply Grew.drew | with_reducible apply Grew.drewN))⟩
  by_cases h1 : 1 ≤ size
  rotate_left
  · go_wp2
    go_ret
    exact ⟨rfl, G0.out.trans (by repeat (first | with_reducible exact Grew.refl _ | with_reducible apply Grew.alloc | with_reducible apply Grew.grow | with_reducible apply Grew.drew | with_reducible apply Grew.drewN))⟩
  by_cases h8 : size ≤ 8
  rotate_left
  · go_wp2
    go_ret
    exact ⟨rfl, G0.out.trans (by repeat (first | with_reducible exact Grew.refl _ | with_reducible apply Grew.alloc | with_reducible apply Grew.grow | with_reducible apply Grew.drew | with_reducible apply Grew.drewN))⟩
  obtain ⟨s, rfl⟩ : ∃ s : Nat, size = s := ⟨size.toNat, by omega⟩
  have s8 : s ≤ 8 := by omega
  go_wp2_with (go_at_call 6; refine stop_of ?_)
  unfold Stop
  refine (put_w n s hn s8 W0).mono ?_
  rintro e W1 ⟨cap, rfl, ho, hg⟩
  obtain ⟨p, hp⟩ : ∃ p, putL n s = p := ⟨_, rfl⟩
  have hpl : p.length = s := by rw [← hp, putL_len]
  rw [hp] at ho
  obtain ⟨g, hgg⟩ : ∃ g, W0.heap.size = g := ⟨_, rfl⟩
  rw [hgg] at ho ⊢
  have SP := Lib.hid ho.shows
  have PL := Lib.hid (And.intro hp hpl)
  have G1 := Lib.hid (G0.out.trans hg)
  clear ho hg hp hpl hgg G0
  go_wp2_with (at_builtin; refine stop_of ?_)
  unfold Stop
  refine wpList_appends rfl _ _ _ rfl _ ib _ 1 under_bs hi hz hsz hby rfl W1 W1 _ _ rfl rfl [] (bys l) (Grew.refl _) (OwnR.nil _ _ _) (by exact HS.out.grew G1.out) (bys_one _) (by rw [bys_len, HN.out]; simp [maxLen]; omega) (by rw [bys_len, HN.out]; simp; omega) ?_
  intro v2 W2 ho hg
  rw [List.nil_append] at ho
  have HO := Lib.hid ho
  have HG := Lib.hid hg
  clear ho hg
  go_wp2_with (at_builtin; refine stop_of ?_)
  unfold Stop
  refine wpList_appends rfl _ _ _ rfl _ ib _ 1 under_bs hi hz hsz hby rfl W1 W2 _ _ rfl rfl (bys l) (bys p) HG.out (by exact HO.out) (by exact SP.out.grew HG.out) (bys_one _) (by rw [bys_len, bys_len, HN.out, PL.out.2]; simp only [maxLen]; omega) (by rw [bys_len, bys_len, HN.out, PL.out.2]; omega) ?_
  intro v3 W3 ho hg
  rw [← bys_append] at ho
  obtain ⟨q3, c3, hq3, hc3, sh3⟩ := ShowsC.own ho
  subst hq3
  have hl3 : (l ++ p).length = N + s := by rw [List.length_append, HN.out, PL.out.2]
  have SH3 := Lib.hid sh3
  have G3 := Lib.hid (G1.out.trans hg)
  have g13 := Lib.hid hg
  have C3 := Lib.hid hc3
  have CG := Lib.hid (show Calls Try.prog 7 #[.slice q3 (l ++ p).length c3, .int .i64 (N : Nat), .int .i64 (s : Nat)] W3 fun e w' => e = .returned (.tuple #[.int .u64 (n % 256 ^ s : Nat), .bool true]) ∧ Grew W3 w' from by
    have := get_w (l ++ p) q3 c3 N s W3 (by intro x hx; rcases List.mem_append.1 hx with h | h; exact HB.out x h; rw [← PL.out.1] at h; exact putL_lt _ _ x h) sh3 hc3 (by rw [hl3]; omega)
    have e1 : getOk (l ++ p).length (N : Nat) (s : Nat) = true := decide_eq_true (by rw [hl3]; omega)
    have e2 : getN (l ++ p) (N : Nat) (s : Nat) = n % 256 ^ s := by
      unfold getN
      rw [if_pos e1, Int.toNat_natCast, Int.toNat_natCast, ← HN.out, List.drop_left, ← PL.out.2, List.take_length, ← PL.out.1, num_put]
      rw [putL_len]
    rw [e1, e2] at this
    exact this)
  obtain ⟨L3, hL3⟩ : ∃ L, (l ++ p).length = L := ⟨_, rfl⟩
  rw [hL3] at CG ⊢
  obtain ⟨x, hx⟩ : ∃ x, n % 256 ^ s = x := ⟨_, rfl⟩
  rw [hx] at CG
  have XX := Lib.hid hx
  clear ho hg hc3 sh3 HO HG hl3 hL3 hx
  go_wp2_with (go_at_call 7; refine stop_of ?_)
  unfold Stop
  refine CG.out.mono ?_
  rintro e W4 ⟨rfl, hg⟩
  have CH := Lib.hid (fun W (sh : Shows W (.slice q l.length c) (bys l)) => get_w l q c at_ s W HB.out sh (by rw [HN.out]; exact HX.out) (by rw [HN.out]; omega))
  rw [HN.out] at CH
  have fitsY : (getOk N at_ s = false ∧ getN l at_ s = 0) ∨ (getOk N at_ s = true ∧ ∃ a : Nat, at_ = a ∧ a + s ≤ N ∧ getN l at_ s = numL ((l.drop a).take s)) := by
    cases he : getOk N at_ s
    · exact .inl ⟨rfl, by unfold getN; rw [if_neg (by rw [HN.out, he]; simp)]⟩
    · have h := of_decide_eq_true he
      refine .inr ⟨rfl, at_.toNat, by omega, by omega, ?_⟩
      unfold getN
      rw [if_pos (by rw [HN.out]; exact he), Int.toNat_natCast]
  obtain ⟨H, hH⟩ : ∃ H, getOk N at_ s = H := ⟨_, rfl⟩
  obtain ⟨Y, hY⟩ : ∃ H, getN l at_ s = H := ⟨_, rfl⟩
  rw [hH, hY] at CH fitsY
  have FY := Lib.hid fitsY
  have SP4 := Lib.hid (SP.out.grew (g13.out.trans hg))
  have G4 := Lib.hid (G3.out.trans hg)
  clear fitsY hH hY hg CG SP g13 G1 G3 SH3
  go_wp2_with (go_at_call 7; refine stop_of ?_)
  unfold Stop
  refine (CH.out W4 (HS.out.grew G4.out)).mono ?_
  rintro e W5 ⟨rfl, hg⟩
  have SP5 := Lib.hid (SP4.out.grew hg)
  have SS5 := Lib.hid (HS.out.grew (G4.out.trans hg))
  have G5 := Lib.hid (G4.out.trans hg)
  clear hg SP4 G4 CH
  have fit : (s = 8 ∧ x = n) ∨ (s < 8 ∧ ((x = n ∧ n < 256 ^ s) ∨ (x ≠ n ∧ ¬ n < 256 ^ s))) := by
    have hx := XX.out
    rcases Nat.lt_or_ge s 8 with h | h
    · refine .inr ⟨h, ?_⟩
      have hp : 0 < 256 ^ s := Nat.pow_pos (by decide)
      have hm := Nat.mod_lt n hp
      by_cases hlt : n < 256 ^ s
      · exact .inl ⟨by rw [← hx, Nat.mod_eq_of_lt hlt], hlt⟩
      · exact .inr ⟨by omega, hlt⟩
    · obtain rfl : s = 8 := by omega
      exact .inl ⟨rfl, by rw [← hx, Nat.mod_eq_of_lt (by omega)]⟩
  obtain ⟨P, hP⟩ : ∃ P, 256 ^ s = P := ⟨_, rfl⟩
  have fit2 : (((s : Int) == 8) = true ∧ x = n) ∨ (((s : Int) == 8) = false ∧ IntKind.u64.wrap ((2 : Int) ^ (8 * s)) = (P : Int) ∧ x = n ∧ decide (n < P) = true) ∨ (((s : Int) == 8) = false ∧ IntKind.u64.wrap ((2 : Int) ^ (8 * s)) = (P : Int) ∧ ((x : Int) == (n : Int)) = false ∧ decide (n < P) = false) := by
    rw [hP] at fit
    have hw : s < 8 → IntKind.u64.wrap ((2 : Int) ^ (8 * s)) = (P : Int) := fun h => by
      have e1 : (256 : Nat) ^ s = 2 ^ (8 * s) := by rw [Nat.pow_mul]
      have e2 : (2 : Nat) ^ (8 * s) < 2 ^ 64 := Nat.pow_lt_pow_right (by decide) (by omega)
      have e3 : ((2 : Int) ^ (8 * s)) = ((2 ^ (8 * s) : Nat) : Int) := by rw [Int.natCast_pow]; rfl
      rw [IntKind.wrap_u64, e3, ← hP, e1]
      omega
    rcases fit with ⟨h1, h2⟩ | ⟨h1, ⟨h2, h3⟩ | ⟨h2, h3⟩⟩
    · exact .inl ⟨by rw [h1]; rfl, h2⟩
    · exact .inr (.inl ⟨nat_bne (b := 8) (by omega), hw h1, h2, decide_eq_true h3⟩)
    · exact .inr (.inr ⟨nat_bne (b := 8) (by omega), hw h1, nat_bne h2, decide_eq_false h3⟩)
  have hsp : 1 ≤ s := by omega
  clear fit hP
  rcases fit2 with ⟨h0, rfl⟩ | ⟨h0, h2, rfl, h4⟩ | ⟨h0, h2, h3, h4⟩
  all_goals
    rcases FY.out with ⟨rfl, rfl⟩ | ⟨rfl, a, rfl, hle, hy⟩
    · go_wp2
      first | refine wp_region_pure_lit_g (by kernel_rfl) (by kernel_rfl) ?_ | refine wp_region_pure_lit (by kernel_rfl) (by kernel_rfl) ?_
      repeat (go_big_quiet_step ((fail)))
      refine wpQuiet_nil ?_
      intro _ hw'
      obtain ⟨δ1, hw''⟩ := hw'
      subst hw''
      go_wp2
      go_ret
      exact ⟨rfl, G5.out.trans (by repeat (first | with_reducible exact Grew.refl _ | with_reducible apply Grew.alloc | with_reducible apply Grew.grow | with_reducible apply Grew.drew | with_reducible apply Grew.drewN))⟩
    · have hx2 := HX.out
      have HLE := Lib.hid hle
      have HY := Lib.hid hy
      obtain ⟨b, o, rfl, lb, -⟩ := shows_cell (k := 0) (u := (bys l)[0]'(by rw [bys_len, HN.out]; omega)) SS5.out (List.getElem?_eq_getElem _)
      obtain ⟨m, hm⟩ : ∃ m, (l.drop a).take s = m := ⟨_, rfl⟩
      have hml : m.length = s := by rw [← hm, List.length_take, List.length_drop, HN.out]; omega
      have hmb : ∀ x ∈ m, x < 256 := fun x hx => by rw [← hm] at hx; exact HB.out x (List.mem_of_mem_drop (List.mem_of_mem_take hx))
      rw [hm] at hy
      have hYb : Y < 18446744073709551616 := by
        have h2 := numL_lt s m hml hmb
        have h3 : 256 ^ s ≤ 256 ^ 8 := Nat.pow_le_pow_right (by decide) s8
        rw [hy]
        omega
      have hput : putL Y s = m := by rw [hy]; exact put_num s m hml hmb
      have sx : Shows W5 (.slice (some ⟨b, o + a, none⟩) s (c - a)) (bys m) := by
        refine .inl ⟨b, o + a, c - a, by rw [bys_len, hml], lb, fun j u hj => ?_⟩
        rw [← hm] at hj
        unfold bys at hj
        rw [List.getElem?_map, List.getElem?_take] at hj
        by_cases hjs : j < s
        · rw [if_pos hjs, List.getElem?_drop] at hj
          obtain ⟨b', o', he, _, hc⟩ := shows_cell (k := a + j) (u := u) SS5.out (by unfold bys; rw [List.getElem?_map]; exact hj)
          simp only [Option.some.injEq, Addr.mk.injEq] at he
          obtain ⟨rfl, rfl, -⟩ := he
          rw [Nat.add_assoc]; exact hc
        · rw [if_neg hjs] at hj; cases hj
      have t1 := conv_str sx
      obtain ⟨e, he⟩ : ∃ e, a + s = e := ⟨_, rfl⟩
      have heI : (a : Int) + (s : Int) = (e : Int) := by omega
      have I0 := Lib.hid (show wrap64 (e : Int) = (e : Int) by simp only [wrap64]; omega)
      have i1 : (e : Int) ≤ (c : Int) := by omega
      have i2 : (a : Int) ≤ (e : Int) := by omega
      have i3 : (e : Int) - (a : Int) = (s : Int) := by omega
      have i4 : e - a = s := by omega
      have i5 : ¬ c = a := by omega
      have i6 : decide (0 ≤ (a : Int)) = true := decide_eq_true (by omega)
      have eb : ((bstr m).toList == (bstr m).toList) = true := by simp
      have CP := Lib.hid (show ∀ W, Calls Try.prog 6 #[.int .u64 (Y : Nat), .int .i64 (s : Nat)] W fun e w' => ∃ p' c', e = .returned (.slice p' s c') ∧ Shows w' (.slice p' s c') (bys m) ∧ Grew W w' from fun W => (put_w Y s hYb s8 W).mono (by rintro e w' ⟨cap, rfl, ho, hg⟩; rw [hput] at ho; exact ⟨_, _, rfl, ho.shows, hg⟩))
      clear hy hle hm hml hmb hYb hput sx he
      go_wp2
      have i0 := I0.out
      refine wp_region_flow (by kernel_rfl) ?_
      intro δf
      apply wpFlow_quiets [0,1,2,3,4,5,6,7,8,9,10,11,12,13,14,17,18,19,20,21] (by decide +kernel) (by decide +kernel) (by kernel_rfl) (by intro _ _ _ d _ h; cases d <;> exact h) _
      · intro A hA δ'
        simp only [pickOps_cons, pickOps_nil, pick1_zero, pick1_succ]
        repeat (go_big_quiet_step ((fail)))
        exact wpQuiet_nil hA.out.symm
      apply wpFlow_quiets [22] (by decide +kernel) (by decide +kernel) (by kernel_rfl) (by intro _ _ _ d _ h; cases d <;> exact h) _
      · intro A hA δ'
        simp only [pickOps_cons, pickOps_nil, pick1_zero, pick1_succ]
        repeat (go_big_quiet_step ((fail)))
        exact wpQuiet_nil hA.out.symm
      apply wpFlow_quiets [23] (by decide +kernel) (by decide +kernel) (by kernel_rfl) (by intro _ _ _ d _ h; cases d <;> exact h) _
      · intro A hA δ'
        simp only [pickOps_cons, pickOps_nil, pick1_zero, pick1_succ]
        repeat (go_big_quiet_step ((fail)))
        exact wpQuiet_nil hA.out.symm
      refine wpFlow_one 15 (by decide +kernel) (by kernel_rfl) (by kernel_rfl) ?_
      refine wpFlowS_intro ?_
      simp only [pickOps_cons, pickOps_nil, pick1_zero, pick1_succ]
      intro δf
      go_wp2_with (go_at_call 6; refine (CP.out _).mono ?_; rintro e W6 ⟨p6, c6, rfl, ho, hg⟩)
      refine ⟨(by first | assumption | (simp only [grow_grow, Array.append_assoc]; assumption) | exact Grew.refl _ | (simp only [grow_grow, Array.append_assoc]; exact (by repeat (first | with_reducible exact Grew.refl _ | with_reducible apply Grew.alloc | with_reducible apply Grew.grow | with_reducible apply Grew.drew | with_reducible apply Grew.drewN))) | exact (by repeat (first | with_reducible exact Grew.refl _ | with_reducible apply Grew.alloc | with_reducible apply Grew.grow | with_reducible apply Grew.drew | with_reducible apply Grew.drewN))), ?_⟩
      have t3 := conv_str ho
      have G6 := Lib.hid (G5.out.trans ((show Grew W5 _ from (by repeat (first | with_reducible exact Grew.refl _ | with_reducible apply Grew.alloc | with_reducible apply Grew.grow | with_reducible apply Grew.drew | with_reducible apply Grew.drewN))).trans hg))
      clear ho hg t1
      apply wpFlow_quiets [16] (by decide +kernel) (by decide +kernel) (by kernel_rfl) (by intro _ _ _ d _ h; cases d <;> exact h) _
      · intro A hA δ'
        simp only [pickOps_cons, pickOps_nil, pick1_zero, pick1_succ]
        repeat (go_big_quiet_step ((fail)))
        exact wpQuiet_nil hA.out.symm
      apply wpFlow_quiets [24,25,26,27] (by decide +kernel) (by decide +kernel) (by kernel_rfl) (by intro _ _ _ d _ h; cases d <;> exact h) _
      · intro A hA δ'
        simp only [pickOps_cons, pickOps_nil, pick1_zero, pick1_succ]
        repeat (go_big_quiet_step ((fail)))
        exact wpQuiet_nil hA.out.symm
      refine wpFlow_end (by decide +kernel) (by kernel_rfl) ?_
      intro δf
      go_wp2
      go_ret
      exact ⟨rfl, G6.out.trans (by repeat (first | with_reducible exact Grew.refl _ | with_reducible apply Grew.alloc | with_reducible apply Grew.grow | with_reducible apply Grew.drew | with_reducible apply Grew.drewN))⟩
end Go.Proofs.Ytccadhfeiehmbaa
namespace Go.Proofs.Ytccadhfeiehmbaa.binNumbers
set_option linter.unusedVariables false
set_option linter.unusedSimpArgs false
open Go.ChangeShapes Go.WideShapes Go.ChangeAt Go.RowKit

set_option maxRecDepth 100000 in
theorem lifted (os : Os) (started : os.Started) (H : Type) (enc : TypeId × Value → H) :
    ReturnsInHanded {} Try.checked os 3 .any (Rows.binNumbersSpec.pre6 enc Try.prog Try.f3 Rows.binNumbersRow.domain false) (Rows.binNumbersSpec.post enc Try.prog Try.f3 false true false false) := by
  refine returnsInHanded_of_change (C := Try.checked) own started (by kernel_rfl) Try.func3
    (ChangeSpec.witness6 (enc := enc) (C := Try.checked) false ⟨#[], #[.int .u64 0, .int .i64 0, .slice none 0 0, .int .i64 0], []⟩ 8 (by kernel_rfl) (by kernel_rfl) (by kernel_rfl) (by kernel_rfl)) ?_
  intro W base args ds gs before hval0 hW _ _
  have hval : ∀ (j : Nat) t v, Try.f3.params[j]? = some t → args[j]? = some v → Value.okWide Try.prog W .any base t v := hval0
  have hW' := hW
  obtain ⟨p, q, hA0, hV, rfl, hfz, hnd⟩ := hW
  have hA : DataW.TrodAll enc Try.prog W 0 (fun _ => true) true Try.f3.params.toList args.toList ds p := hA0
  have hAk := hA
  rw [Try.params3] at hA hval
  obtain ⟨v0, vs0, d0, ds0, p0, q0, hargs0, rfl, rfl, h0, r0⟩ := trodAll_cons hA
  obtain ⟨v1, vs1, d1, ds1, p1, q1, hargs1, rfl, rfl, h1, r1⟩ := trodAll_cons r0
  obtain ⟨v2, vs2, d2, ds2, p2, q2, hargs2, rfl, rfl, h2, r2⟩ := trodAll_cons r1
  obtain ⟨v3, vs3, d3, ds3, p3, q3, hargs3, rfl, rfl, h3, r3⟩ := trodAll_cons r2
  obtain ⟨rfl, rfl, rfl⟩ := trodAll_nil r3
  subst hargs3
  subst hargs2
  subst hargs1
  obtain rfl : args = #[v0, v1, v2, v3] := by cases args; simp_all
  obtain ⟨rfl, rfl⟩ := trodVars_none hV
  obtain ⟨a0, rfl, rfl, _, w0⟩ := open_int Try.underlying22 (hval 0 22 v0 rfl rfl) h0
  have v0 := w0
  obtain ⟨n0, rfl, b0⟩ := u64_nat v0
  obtain ⟨a1, rfl, rfl, _, w1⟩ := open_int Try.underlying3 (hval 1 3 v1 rfl rfl) h1
  obtain ⟨q2', n2', c2', rfl⟩ := okWide_slice Try.underlying23 (hval 2 23 v2 rfl rfl)
  obtain ⟨aq2, ac2, al2, ae2, ab2, am2, as2, ax2⟩ := open_bytesc h2 rfl
  rw [ae2]
  obtain ⟨a3, rfl, rfl, _, w3⟩ := open_int Try.underlying3 (hval 3 3 v3 rfl rfl) h3
  simp only [List.append_nil] at hW'
  refine (binNumbers_walk n0 b0 a1 aq2 ac2 al2 ab2 am2 a3 W as2 ax2).mono fun e W' ⟨he, hg⟩ => ?_
  subst he
  rw [← ae2]
  exact ⟨_, rfl, post_of_stays hW' rfl (by simpa using hAk) (types_ok _ (by rw [Try.params3]; kernel_rfl)) rfl rfl (fun _ _ _ => (trodAll_cons_mk (shut_bool Try.underlying4 _) trodAll_mk0))
    hg (ok_one (by kernel_rfl) rfl (okWide_bool_mk Try.underlying4 _))⟩

theorem proved : Rows.BinNumbersSaid :=
  OpenClaim.holds_of_wide 3 Try.f3 rfl rfl rfl rfl rfl rfl rfl ⟨rfl, rfl, rfl, rfl, rfl⟩ rfl rfl rfl rfl rfl (by kernel_rfl) Try.func3 (by kernel_rfl)
    (of_decide_eq_true (by kernel_rfl)) (by unfold Func.isWrapper; first | (rw [if_pos (by decide +kernel)]; kernel_rfl) | (rw [if_neg (by decide +kernel)]; exact ⟨rfl, rfl⟩))
    (fun os started H enc _ => lifted os started H enc)
end Go.Proofs.Ytccadhfeiehmbaa.binNumbers
