/- 'stepladderlaw04.BinApart' answers true for every number of 64 bits, number of 64 bits, int, slice of slices of bytes, slice of slices of bytes, without panicking, and what it was handed reads as before. Conditions: none. -/
import Derived.Test.YtccadhfeiehmbaaRows
import Derived.Test.YtccadhfeiehmbaaM3
/- BinApart: the walk. -/
namespace Go.Proofs.Ytccadhfeiehmbaa
open Go.RowKit
set_option maxRecDepth 100000
set_option linter.unusedVariables false
set_option linter.unusedSimpArgs false
theorem putL_inj {n m s : Nat} (hn : n < 256 ^ s) (hm : m < 256 ^ s) (h : putL n s = putL m s) : n = m := by
  rw [← num_put_lt hn, ← num_put_lt hm, h]
theorem blobL_inj {x y : List Nat} {r t : List Nat} (hx : x.length ≤ 65535) (hy : y.length ≤ 65535) (h : blobL x ++ r = blobL y ++ t) : x = y ∧ r = t := by
  unfold blobL at h
  rw [List.append_assoc, List.append_assoc] at h
  obtain ⟨h1, h2⟩ := List.append_inj h (by rw [putL_len, putL_len])
  have h3 := putL_inj (s := 2) (by omega) (by omega) h1
  exact List.append_inj h2 h3
theorem flat_inj : ∀ {a b : List (List Nat)}, (∀ l ∈ a, l.length ≤ 65535) → (∀ l ∈ b, l.length ≤ 65535) → a.length = b.length → a.flatMap blobL = b.flatMap blobL → a = b
  | [], b, _, _, h, _ => (List.length_eq_zero_iff.1 h.symm).symm
  | x :: a, [], _, _, h, _ => by simp at h
  | x :: a, y :: b, ha, hb, hl, h => by
    rw [List.flatMap_cons, List.flatMap_cons] at h
    obtain ⟨h1, h2⟩ := blobL_inj (ha x (by simp)) (hb y (by simp)) h
    rw [h1, flat_inj (fun l h => ha l (by simp [h])) (fun l h => hb l (by simp [h])) (by simpa using hl) h2]
theorem rowsL_iff {a b : List (List Nat)} (ha : ∀ l ∈ a, l.length ≤ 65535) (hb : ∀ l ∈ b, l.length ≤ 65535) : rowsL a = rowsL b ↔ a = b := by
  refine ⟨fun h => ?_, fun h => by rw [h]⟩
  unfold rowsL at h
  rw [List.cons.injEq] at h
  exact flat_inj ha hb h.1 h.2
theorem rowsL_lt {a : List (List Nat)} (h : a.length ≤ 255) (hb : ∀ l ∈ a, ∀ x ∈ l, x < 256) : ∀ x ∈ rowsL a, x < 256 := by
  intro x hx
  unfold rowsL at hx
  rcases List.mem_cons.1 hx with rfl | hx
  · omega
  · obtain ⟨l, hl, hx⟩ := List.mem_flatMap.1 hx
    exact blobL_lt l (hb l hl) x hx
/-- Are the first k the same? -/
def sameK (a b : List (List Nat)) (k : Nat) : Bool := decide (a.length = b.length) && (a.take k == b.take k)
theorem sameK_0 (a b : List (List Nat)) : sameK a b 0 = decide (a.length = b.length) := by simp [sameK]
theorem sameK_all (a b : List (List Nat)) : sameK a b a.length = decide (a = b) := by
  rw [Bool.eq_iff_iff, decide_eq_true_eq]
  unfold sameK
  simp only [List.take_length, Bool.and_eq_true, decide_eq_true_eq, beq_iff_eq]
  constructor
  · rintro ⟨h1, h2⟩
    rw [h1, List.take_length] at h2
    exact h2
  · rintro rfl
    exact ⟨rfl, by rw [List.take_length]⟩
theorem sameK_succ (a b : List (List Nat)) (k : Nat) (hk : k < a.length) (h : sameK a b k = true) : sameK a b (k + 1) = decide (a.getD k [] = b.getD k []) := by
  unfold sameK at h ⊢
  simp only [Bool.and_eq_true, decide_eq_true_eq, beq_iff_eq] at h
  obtain ⟨h1, h2⟩ := h
  have hk2 : k < b.length := by omega
  have e1 : a.take (k + 1) = a.take k ++ [a.getD k []] := by rw [List.take_add_one, List.getElem?_eq_getElem hk, List.getD, List.getElem?_eq_getElem hk]; rfl
  have e2 : b.take (k + 1) = b.take k ++ [b.getD k []] := by rw [List.take_add_one, List.getElem?_eq_getElem hk2, List.getD, List.getElem?_eq_getElem hk2]; rfl
  rw [decide_eq_true h1, Bool.true_and, e1, e2, h2, Bool.eq_iff_iff, beq_iff_eq, decide_eq_true_eq]
  simp
theorem sameK_no {a b : List (List Nat)} {k : Nat} (h : sameK a b k = false) : a ≠ b := by
  rintro rfl
  unfold sameK at h
  simp at h
set_option maxHeartbeats 25600000 in
theorem binApart_walk (n : Nat) (hn : n < 18446744073709551616) (m : Nat) (hm : m < 18446744073709551616) (size : Int) (q : Option Addr) (c : Nat) (a : List (List Nat)) (ha : ∀ l ∈ a, ∀ x ∈ l, x < 256) (hma : a.length ≤ maxLen ∧ ∀ l ∈ a, l.length ≤ maxLen)
    (q2 : Option Addr) (c2 : Nat) (b : List (List Nat)) (hb : ∀ l ∈ b, ∀ x ∈ l, x < 256) (hmb : b.length ≤ maxLen ∧ ∀ l ∈ b, l.length ≤ maxLen) (w : World) (hsa : RowsAt w (.slice q a.length c) a) (hsb : RowsAt w (.slice q2 b.length c2) b) :
    Calls Try.prog 4 #[.int .u64 n, .int .u64 m, .int .i64 size, .slice q a.length c, .slice q2 b.length c2] w fun e w' => e = .returned (.bool true) ∧ Grew w w' := by
  have CA := Lib.hid (fun W (s : RowsAt W (.slice q a.length c) a) => small_w a q c W hma s)
  have CB := Lib.hid (fun W (s : RowsAt W (.slice q2 b.length c2) b) => small_w b q2 c2 W hmb s)
  have RA := Lib.hid (fun (h : a.length ≤ 255) (hl : ∀ l ∈ a, l.length ≤ 65535) W (s : RowsAt W (.slice q a.length c) a) => rows_w a _ W h hl s)
  have RB := Lib.hid (fun (h : b.length ≤ 255) (hl : ∀ l ∈ b, l.length ≤ 65535) W (s : RowsAt W (.slice q2 b.length c2) b) => rows_w b _ W h hl s)
  have SA := Lib.hid hsa
  have SB := Lib.hid hsb
  have HA := Lib.hid ha
  have HB := Lib.hid hb
  obtain ⟨A, hA⟩ : ∃ A, a.length = A := ⟨_, rfl⟩
  obtain ⟨B, hB⟩ : ∃ A, b.length = A := ⟨_, rfl⟩
  have LA := Lib.hid hA
  have LB := Lib.hid hB
  have fa := fewL_iff a
  have fb := fewL_iff b
  obtain ⟨Fa, hFa⟩ : ∃ A, fewL a = A := ⟨_, rfl⟩
  obtain ⟨Fb, hFb⟩ : ∃ A, fewL b = A := ⟨_, rfl⟩
  rw [hFa] at CA fa
  rw [hFb] at CB fb
  rw [hA] at CA SA RA fa
  rw [hB] at CB SB RB fb
  rw [hA, hB]
  have FA := Lib.hid fa
  have FB := Lib.hid fb
  clear hsa hsb hma hmb ha hb hA hB hFa hFb fa fb
  go_enter Try.func4, Try.ntmps4
  go_wp2_with (go_at_call 5; refine stop_of ?_)
  unfold Stop
  refine (awake_w w).mono ?_
  rintro e W0 ⟨rfl, hg⟩
  have G0 := Lib.hid hg
  clear hg
  go_wp2_with (go_at_call 8; refine stop_of ?_)
  unfold Stop
  refine (CA.out W0 (SA.out.grew G0.out)).mono ?_
  rintro e W1 ⟨rfl, hg⟩
  have G1 := Lib.hid (G0.out.trans hg)
  clear hg G0
  go_wp2_with (go_at_call 8; refine stop_of ?_)
  unfold Stop
  refine (CB.out W1 (SB.out.grew G1.out)).mono ?_
  rintro e W2 ⟨rfl, hg⟩
  have G2 := Lib.hid (G1.out.trans hg)
  clear hg G1 CA CB
  cases Fa
  · go_wp2
    go_ret
    exact ⟨rfl, G2.out.trans (by repeat (first | with_reducible exact Grew.refl _ | with_reducible apply Grew.alloc | with_reducible apply Grew.grow | with_reducible apply Grew.drew | with_reducible apply Grew.drewN))⟩
  cases Fb
  · go_wp2
    go_ret
    exact ⟨rfl, G2.out.trans (by repeat (first | with_reducible exact Grew.refl _ | with_reducible apply Grew.alloc | with_reducible apply Grew.grow | with_reducible apply Grew.drew | with_reducible apply Grew.drewN))⟩
  have fa := FA.out.1 rfl
  have fb := FB.out.1 rfl
  have A3 := fa.1
  have B3 := fb.1
  have HLA := Lib.hid (fun l (h : l ∈ a) => Nat.le_trans (fa.2 l h) (show 400 ≤ 65535 by decide))
  have HLB := Lib.hid (fun l (h : l ∈ b) => Nat.le_trans (fb.2 l h) (show 400 ≤ 65535 by decide))
  clear fa fb FA FB
  -- the rows' bytes, or none
  have PA := Lib.hid (show ∀ W, RowsAt W (.slice q A c) a → Calls Try.prog 9 #[.slice q A c] W fun e w' => ∃ v l, e = .returned (.tuple #[v, .bool (decide (A ≤ 255))]) ∧ Shows w' v (bys l) ∧ (A ≤ 255 → l = rowsL a) ∧ Grew W w' from fun W s => by
    by_cases h : A ≤ 255
    · rw [decide_eq_true h]
      exact (RA.out h HLA.out W s).mono (by rintro e w' ⟨v, rfl, ho, hg⟩; exact ⟨v, _, rfl, ho.shows, fun _ => rfl, hg⟩)
    · rw [decide_eq_false h]
      exact (rows_out A c q W (by omega)).mono (by rintro e w' ⟨rfl, hg⟩; exact ⟨_, [], rfl, .inr ⟨_, _, rfl, rfl⟩, fun h2 => absurd h2 h, hg⟩))
  have PB := Lib.hid (show ∀ W, RowsAt W (.slice q2 B c2) b → Calls Try.prog 9 #[.slice q2 B c2] W fun e w' => ∃ v l, e = .returned (.tuple #[v, .bool (decide (B ≤ 255))]) ∧ Shows w' v (bys l) ∧ (B ≤ 255 → l = rowsL b) ∧ Grew W w' from fun W s => by
    by_cases h : B ≤ 255
    · rw [decide_eq_true h]
      exact (RB.out h HLB.out W s).mono (by rintro e w' ⟨v, rfl, ho, hg⟩; exact ⟨v, _, rfl, ho.shows, fun _ => rfl, hg⟩)
    · rw [decide_eq_false h]
      exact (rows_out B c2 q2 W (by omega)).mono (by rintro e w' ⟨rfl, hg⟩; exact ⟨_, [], rfl, .inr ⟨_, _, rfl, rfl⟩, fun h2 => absurd h2 h, hg⟩))
  obtain ⟨OA, hOA⟩ : ∃ O, decide (A ≤ 255) = O := ⟨_, rfl⟩
  obtain ⟨OB, hOB⟩ : ∃ O, decide (B ≤ 255) = O := ⟨_, rfl⟩
  rw [hOA] at PA
  rw [hOB] at PB
  have OAH := Lib.hid hOA
  have OBH := Lib.hid hOB
  clear RA RB hOA hOB
  go_wp2_with (go_at_call 9; refine stop_of ?_)
  unfold Stop
  refine (PA.out W2 (SA.out.grew G2.out)).mono ?_
  rintro e W3 ⟨v1, l1, rfl, s1, e1, hg⟩
  obtain ⟨p1, k1, rfl⟩ := shows_form s1
  obtain ⟨n1, hn1⟩ : ∃ n, (bys l1).length = n := ⟨_, rfl⟩
  rw [hn1] at s1 ⊢
  have S1 := Lib.hid s1
  have E1 := Lib.hid e1
  have G3 := Lib.hid (G2.out.trans hg)
  clear hg s1 e1 PA G2 hn1
  go_wp2_with (go_at_call 9; refine stop_of ?_)
  unfold Stop
  refine (PB.out W3 (SB.out.grew G3.out)).mono ?_
  rintro e W4 ⟨v2, l2, rfl, s2, e2, hg⟩
  obtain ⟨p2, k2, rfl⟩ := shows_form s2
  obtain ⟨n2, hn2⟩ : ∃ n, (bys l2).length = n := ⟨_, rfl⟩
  rw [hn2] at s2 ⊢
  have S2 := Lib.hid s2
  have E2 := Lib.hid e2
  have S1' := Lib.hid (S1.out.grew hg)
  have G4 := Lib.hid (G3.out.trans hg)
  clear hg s2 e2 PB G3 S1 hn2
  have NM := Lib.hid (And.intro hn hm)
  clear hn hm
  go_wp2
  go_loopw [18, 19] (fun sv i wr => ∃ k : Nat, k ≤ A ∧ sv = .bool (sameK a b k) ∧ i = .int .i64 k ∧ Grew W4 wr) (fun _ i _ => A - (intOf i).toNat)
  case atStart =>
    refine ⟨0, by omega, ?_, rfl, Grew.refl _⟩
    rw [sameK_0, LA.out, LB.out]
    congr 1
    by_cases h : A = B
    · rw [decide_eq_true h, nat_beq h]
    · rw [decide_eq_false h, nat_bne h]
  case round =>
    obtain ⟨k, hk, rfl, rfl, hgw⟩ := hrel
    have GW := Lib.hid hgw
    clear hgw
    by_cases hgo : k < A ∧ sameK a b k = true
    · obtain ⟨h1, h2⟩ := hgo
      have h3 : (k : Int) < (A : Int) := by omega
      have hstep := sameK_succ a b k (by rw [LA.out]; exact h1) h2
      have hAB : A = B := by
        have h2' := h2
        unfold sameK at h2'
        rw [LA.out, LB.out, Bool.and_eq_true, decide_eq_true_eq] at h2'
        exact h2'.1
      rw [h2]
      obtain ⟨vs, hv1, hv2, hv3⟩ := SA.out.grew (G4.out.trans GW.out)
      obtain ⟨us, hu1, hu2, hu3⟩ := SB.out.grew (G4.out.trans GW.out)
      have hx := hv3 k (by rw [LA.out]; exact h1)
      have hy := hu3 k (by rw [LB.out]; omega)
      obtain ⟨b1, o1, rfl, lb1, cell1⟩ := row_at hv1 hv2 k (by rw [LA.out]; exact h1)
      obtain ⟨b2, o2, rfl, lb2, cell2⟩ := row_at hu1 hu2 k (by rw [LB.out]; omega)
      have hxb : ∀ c ∈ a.getD k [], c < 256 := HA.out _ (by rw [List.getD, List.getElem?_eq_getElem (by rw [LA.out]; exact h1)]; exact List.getElem_mem _)
      have hyb : ∀ c ∈ b.getD k [], c < 256 := HB.out _ (by rw [List.getD, List.getElem?_eq_getElem (by rw [LB.out]; omega)]; exact List.getElem_mem _)
      have heq := eq_bstr _ _ hxb hyb
      rw [← hstep] at heq
      obtain ⟨x, hx'⟩ : ∃ x, a.getD k [] = x := ⟨_, rfl⟩
      obtain ⟨y, hy'⟩ : ∃ x, b.getD k [] = x := ⟨_, rfl⟩
      obtain ⟨u1, hu1'⟩ : ∃ x, vs.getD k undef = x := ⟨_, rfl⟩
      obtain ⟨u2, hu2'⟩ : ∃ x, us.getD k undef = x := ⟨_, rfl⟩
      rw [hx', hu1'] at hx
      rw [hy', hu2'] at hy
      rw [hu1'] at cell1
      rw [hu2'] at cell2
      rw [hx', hy'] at heq
      obtain ⟨pv1, cv1, rfl⟩ := shows_form hx
      obtain ⟨pv2, cv2, rfl⟩ := shows_form hy
      obtain ⟨nx, hnx⟩ : ∃ n, (bys x).length = n := ⟨_, rfl⟩
      obtain ⟨ny, hny⟩ : ∃ n, (bys y).length = n := ⟨_, rfl⟩
      rw [hnx] at hx cell1
      rw [hny] at hy cell2
      have t1 := conv_str hx
      have t2 := conv_str hy
      obtain ⟨S, hS⟩ : ∃ S, sameK a b (k + 1) = S := ⟨_, rfl⟩
      have HS := Lib.hid hS
      rw [hS] at heq
      have hkB : (k : Int) < (B : Int) := by omega
      have KK := Lib.hid h1
      clear hv1 hv2 hv3 hu1 hu2 hu3 hx hy hxb hyb hstep hS hx' hy' hu1' hu2' hnx hny h2 h1 hAB hk
      go_wp2
      first | refine wp_region_pure_lit_g (by kernel_rfl) (by kernel_rfl) ?_ | refine wp_region_pure_lit (by kernel_rfl) (by kernel_rfl) ?_
      repeat (go_big_quiet_step ((fail)))
      refine wpQuiet_nil ?_
      intro _ hw'
      obtain ⟨δ1, hw''⟩ := hw'
      subst hw''
      go_wp2
      refine ⟨⟨k + 1, KK.out, by rw [HS.out], by go_num, GW.out.trans ⟨δ1, rfl⟩⟩, by have := KK.out; simp only [intOf]; omega⟩
    · have hD : sameK a b k = decide (a = b) ∧ (¬ (k : Int) < (A : Int) ∨ ((k : Int) < (A : Int) ∧ sameK a b k = false)) := by
        by_cases h1 : k < A
        · have h2 : sameK a b k = false := by
            cases h : sameK a b k
            · rfl
            · exact absurd ⟨h1, h⟩ hgo
          exact ⟨by rw [h2, decide_eq_false (sameK_no h2)], .inr ⟨by omega, h2⟩⟩
        · obtain rfl : k = A := by omega
          refine ⟨?_, .inl (by omega)⟩
          have := sameK_all a b
          rwa [LA.out] at this
      obtain ⟨hD1, hD2⟩ := hD
      obtain ⟨S, hS⟩ : ∃ S, sameK a b k = S := ⟨_, rfl⟩
      rw [hS] at hD1 hD2 ⊢
      -- equal bytes, equal rows
      have he : OA = true → OB = true → ((bstr l1).toList == (bstr l2).toList) = S := fun h1 h2 => by
        have q1 : A ≤ 255 := of_decide_eq_true (OAH.out.trans h1)
        have q2 : B ≤ 255 := of_decide_eq_true (OBH.out.trans h2)
        rw [E1.out q1, E2.out q2, eq_bstr _ _ (rowsL_lt (by rw [LA.out]; exact q1) HA.out) (rowsL_lt (by rw [LB.out]; exact q2) HB.out), hD1, Bool.eq_iff_iff, decide_eq_true_eq, decide_eq_true_eq]
        exact rowsL_iff HLA.out HLB.out
      have HE := Lib.hid he
      have t1 := shows_string (S1'.out.grew GW.out)
      have t2 := shows_string (S2.out.grew GW.out)
      have GF := Lib.hid (G4.out.trans GW.out)
      clear hD1 hS he hgo
      -- up to where the numbers are told apart
      have P7 : size < 1 ∨ (¬ size < 1 ∧ 7 < size) ∨ ∃ s : Nat, size = s ∧ 1 ≤ s ∧ s ≤ 7 ∧ IntKind.u64.wrap ((2 : Int) ^ (8 * s)) = ((256 ^ s : Nat) : Int) := by
        by_cases h1 : size < 1
        · exact .inl h1
        · by_cases h2 : 7 < size
          · exact .inr (.inl ⟨h1, h2⟩)
          · obtain ⟨s, rfl⟩ : ∃ s : Nat, size = s := ⟨size.toNat, by omega⟩
            refine .inr (.inr ⟨s, rfl, by omega, by omega, ?_⟩)
            have e1 : (256 : Nat) ^ s = 2 ^ (8 * s) := by rw [Nat.pow_mul]
            have e2 : (2 : Nat) ^ (8 * s) < 2 ^ 64 := Nat.pow_lt_pow_right (by decide) (by omega)
            have e3 : ((2 : Int) ^ (8 * s)) = ((2 ^ (8 * s) : Nat) : Int) := by rw [Int.natCast_pow]; rfl
            rw [IntKind.wrap_u64, e3, e1]
            generalize 2 ^ (8 * s) = Q at e2
            omega
      rcases hD2 with hD2 | ⟨hD2, rfl⟩
      all_goals
        cases OA <;> cases OB
        all_goals
          try have he := HE.out rfl rfl
          rcases P7 with h1 | ⟨h1, h2⟩ | ⟨s, rfl, s1, s7, hw⟩
          · go_wp2
            go_ret
            exact ⟨rfl, GF.out.trans (by repeat (first | with_reducible exact Grew.refl _ | with_reducible apply Grew.alloc | with_reducible apply Grew.grow | with_reducible apply Grew.drew | with_reducible apply Grew.drewN))⟩
          · go_wp2
            go_ret
            exact ⟨rfl, GF.out.trans (by repeat (first | with_reducible exact Grew.refl _ | with_reducible apply Grew.alloc | with_reducible apply Grew.grow | with_reducible apply Grew.drew | with_reducible apply Grew.drewN))⟩
          · obtain ⟨P, hP⟩ : ∃ P, 256 ^ s = P := ⟨_, rfl⟩
            rw [hP] at hw
            have HP := Lib.hid hP
            clear hP
            have hs1 : ¬ (s : Int) < 1 := by omega
            have hs7 : ¬ 7 < (s : Int) := by omega
            by_cases hnP : n < P
            · by_cases hmP : m < P
              · have f1 : decide (P ≤ n) = false := decide_eq_false (by omega)
                have f2 : decide (P ≤ m) = false := decide_eq_false (by omega)
                have ee : ((bstr (putL n s)).toList == (bstr (putL m s)).toList) = ((n : Int) == (m : Int)) := by
                  rw [eq_bstr _ _ (putL_lt _ _) (putL_lt _ _)]
                  by_cases h : n = m
                  · rw [h, decide_eq_true rfl]; simp
                  · rw [nat_bne h, decide_eq_false (fun h2 => h (putL_inj (by rw [HP.out]; exact hnP) (by rw [HP.out]; exact hmP) h2))]
                have CN := Lib.hid (show ∀ W, Calls Try.prog 6 #[.int .u64 (n : Nat), .int .i64 (s : Nat)] W fun e w' => ∃ p' c', e = .returned (.slice p' s c') ∧ Shows w' (.slice p' s c') (bys (putL n s)) ∧ Grew W w' from fun W => (put_w n s NM.out.1 (by omega) W).mono (by rintro e w' ⟨cap, rfl, ho, hg⟩; exact ⟨_, _, rfl, ho.shows, hg⟩))
                have CM := Lib.hid (show ∀ W, Calls Try.prog 6 #[.int .u64 (m : Nat), .int .i64 (s : Nat)] W fun e w' => ∃ p' c', e = .returned (.slice p' s c') ∧ Shows w' (.slice p' s c') (bys (putL m s)) ∧ Grew W w' from fun W => (put_w m s NM.out.2 (by omega) W).mono (by rintro e w' ⟨cap, rfl, ho, hg⟩; exact ⟨_, _, rfl, ho.shows, hg⟩))
                obtain ⟨x1, hx1⟩ : ∃ x, putL n s = x := ⟨_, rfl⟩
                obtain ⟨x2, hx2⟩ : ∃ x, putL m s = x := ⟨_, rfl⟩
                rw [hx1] at CN ee
                rw [hx2] at CM ee
                have EE := Lib.hid ee
                clear hx1 hx2 ee
                go_wp2
                clear t1 t2
                have ee := EE.out
                refine wp_region_flow (by kernel_rfl) ?_
                intro δf
                apply wpFlow_quiets [0,1,4,5,9,10,11] (by decide +kernel) (by decide +kernel) (by kernel_rfl) (by intro _ _ _ d _ h; cases d <;> exact h) _
                · intro A hA δ'
                  simp only [pickOps_cons, pickOps_nil, pick1_zero, pick1_succ]
                  repeat (go_big_quiet_step ((fail)))
                  exact wpQuiet_nil hA.out.symm
                refine wpFlow_one 2 (by decide +kernel) (by kernel_rfl) (by kernel_rfl) ?_
                refine wpFlowS_intro ?_
                simp only [pickOps_cons, pickOps_nil, pick1_zero, pick1_succ]
                intro δf
                go_wp2_with (go_at_call 6; refine (CN.out _).mono ?_; rintro e W6 ⟨p6, c6, rfl, ho, hg⟩)
                refine ⟨(by first | assumption | (simp only [grow_grow, Array.append_assoc]; assumption) | exact Grew.refl _ | (simp only [grow_grow, Array.append_assoc]; exact (by repeat (first | with_reducible exact Grew.refl _ | with_reducible apply Grew.alloc | with_reducible apply Grew.grow | with_reducible apply Grew.drew | with_reducible apply Grew.drewN))) | exact (by repeat (first | with_reducible exact Grew.refl _ | with_reducible apply Grew.alloc | with_reducible apply Grew.grow | with_reducible apply Grew.drew | with_reducible apply Grew.drewN))), ?_⟩
                have t1 := conv_str ho
                have G6 := Lib.hid (GF.out.trans ((show Grew wr _ from (by repeat (first | with_reducible exact Grew.refl _ | with_reducible apply Grew.alloc | with_reducible apply Grew.grow | with_reducible apply Grew.drew | with_reducible apply Grew.drewN))).trans hg))
                clear ho hg
                apply wpFlow_quiets [3] (by decide +kernel) (by decide +kernel) (by kernel_rfl) (by intro _ _ _ d _ h; cases d <;> exact h) _
                · intro A hA δ'
                  simp only [pickOps_cons, pickOps_nil, pick1_zero, pick1_succ]
                  repeat (go_big_quiet_step ((fail)))
                  exact wpQuiet_nil hA.out.symm
                refine wpFlow_one 6 (by decide +kernel) (by kernel_rfl) (by kernel_rfl) ?_
                refine wpFlowS_intro ?_
                simp only [pickOps_cons, pickOps_nil, pick1_zero, pick1_succ]
                intro δf
                go_wp2_with (go_at_call 6; refine (CM.out _).mono ?_; rintro e W7 ⟨p7, c7, rfl, ho, hg⟩)
                refine ⟨(by first | assumption | (simp only [grow_grow, Array.append_assoc]; assumption) | exact Grew.refl _ | (simp only [grow_grow, Array.append_assoc]; exact (by repeat (first | with_reducible exact Grew.refl _ | with_reducible apply Grew.alloc | with_reducible apply Grew.grow | with_reducible apply Grew.drew | with_reducible apply Grew.drewN))) | exact (by repeat (first | with_reducible exact Grew.refl _ | with_reducible apply Grew.alloc | with_reducible apply Grew.grow | with_reducible apply Grew.drew | with_reducible apply Grew.drewN))), ?_⟩
                have t2 := conv_str ho
                have G7 := Lib.hid (G6.out.trans ((show Grew W6 _ from (by repeat (first | with_reducible exact Grew.refl _ | with_reducible apply Grew.alloc | with_reducible apply Grew.grow | with_reducible apply Grew.drew | with_reducible apply Grew.drewN))).trans hg))
                clear ho hg t1
                apply wpFlow_quiets [7,8,12,13] (by decide +kernel) (by decide +kernel) (by kernel_rfl) (by intro _ _ _ d _ h; cases d <;> exact h) _
                · intro A hA δ'
                  simp only [pickOps_cons, pickOps_nil, pick1_zero, pick1_succ]
                  repeat (go_big_quiet_step ((fail)))
                  exact wpQuiet_nil hA.out.symm
                refine wpFlow_end (by decide +kernel) (by kernel_rfl) ?_
                intro δf
                go_wp2
                go_ret
                exact ⟨rfl, G7.out.trans (by repeat (first | with_reducible exact Grew.refl _ | with_reducible apply Grew.alloc | with_reducible apply Grew.grow | with_reducible apply Grew.drew | with_reducible apply Grew.drewN))⟩
              · have f2 : P ≤ m := by omega
                go_wp2
                go_ret
                exact ⟨rfl, GF.out.trans (by repeat (first | with_reducible exact Grew.refl _ | with_reducible apply Grew.alloc | with_reducible apply Grew.grow | with_reducible apply Grew.drew | with_reducible apply Grew.drewN))⟩
            · have f2 : P ≤ n := by omega
              go_wp2
              go_ret
              exact ⟨rfl, GF.out.trans (by repeat (first | with_reducible exact Grew.refl _ | with_reducible apply Grew.alloc | with_reducible apply Grew.grow | with_reducible apply Grew.drew | with_reducible apply Grew.drewN))⟩
end Go.Proofs.Ytccadhfeiehmbaa
namespace Go.Proofs.Ytccadhfeiehmbaa.binApart
set_option linter.unusedVariables false
set_option linter.unusedSimpArgs false
open Go.ChangeShapes Go.WideShapes Go.ChangeAt Go.RowKit

set_option maxRecDepth 100000 in
theorem lifted (os : Os) (started : os.Started) (H : Type) (enc : TypeId × Value → H) :
    ReturnsInHanded {} Try.checked os 4 .any (Rows.binApartSpec.pre6 enc Try.prog Try.f4 Rows.binApartRow.domain false) (Rows.binApartSpec.post enc Try.prog Try.f4 false true false false) := by
  refine returnsInHanded_of_change (C := Try.checked) own started (by kernel_rfl) Try.func4
    (ChangeSpec.witness6 (enc := enc) (C := Try.checked) false ⟨#[], #[.int .u64 0, .int .u64 0, .int .i64 0, .slice none 0 0, .slice none 0 0], []⟩ 8 (by kernel_rfl) (by kernel_rfl) (by kernel_rfl) (by kernel_rfl)) ?_
  intro W base args ds gs before hval0 hW _ _
  have hval : ∀ (j : Nat) t v, Try.f4.params[j]? = some t → args[j]? = some v → Value.okWide Try.prog W .any base t v := hval0
  have hW' := hW
  obtain ⟨p, q, hA0, hV, rfl, hfz, hnd⟩ := hW
  have hA : DataW.TrodAll enc Try.prog W 0 (fun _ => true) true Try.f4.params.toList args.toList ds p := hA0
  have hAk := hA
  rw [Try.params4] at hA hval
  obtain ⟨v0, vs0, d0, ds0, p0, q0, hargs0, rfl, rfl, h0, r0⟩ := trodAll_cons hA
  obtain ⟨v1, vs1, d1, ds1, p1, q1, hargs1, rfl, rfl, h1, r1⟩ := trodAll_cons r0
  obtain ⟨v2, vs2, d2, ds2, p2, q2, hargs2, rfl, rfl, h2, r2⟩ := trodAll_cons r1
  obtain ⟨v3, vs3, d3, ds3, p3, q3, hargs3, rfl, rfl, h3, r3⟩ := trodAll_cons r2
  obtain ⟨v4, vs4, d4, ds4, p4, q4, hargs4, rfl, rfl, h4, r4⟩ := trodAll_cons r3
  obtain ⟨rfl, rfl, rfl⟩ := trodAll_nil r4
  subst hargs4
  subst hargs3
  subst hargs2
  subst hargs1
  obtain rfl : args = #[v0, v1, v2, v3, v4] := by cases args; simp_all
  obtain ⟨rfl, rfl⟩ := trodVars_none hV
  obtain ⟨a0, rfl, rfl, _, w0⟩ := open_int Try.underlying22 (hval 0 22 v0 rfl rfl) h0
  have v0 := w0
  obtain ⟨n0, rfl, b0⟩ := u64_nat v0
  obtain ⟨a1, rfl, rfl, _, w1⟩ := open_int Try.underlying22 (hval 1 22 v1 rfl rfl) h1
  have v1 := w1
  obtain ⟨n1, rfl, b1⟩ := u64_nat v1
  obtain ⟨a2, rfl, rfl, _, w2⟩ := open_int Try.underlying3 (hval 2 3 v2 rfl rfl) h2
  obtain ⟨q3', n3', c3', rfl⟩ := okWide_slice Try.underlying29 (hval 3 29 v3 rfl rfl)
  obtain ⟨aq3, ac3, al3, ae3, ab3, am3, as3⟩ := open_rows h3 rfl
  rw [ae3]
  obtain ⟨q4', n4', c4', rfl⟩ := okWide_slice Try.underlying29 (hval 4 29 v4 rfl rfl)
  obtain ⟨aq4, ac4, al4, ae4, ab4, am4, as4⟩ := open_rows h4 rfl
  rw [ae4]
  simp only [List.append_nil] at hW'
  refine (binApart_walk n0 b0 n1 b1 a2 aq3 ac3 al3 ab3 am3 aq4 ac4 al4 ab4 am4 W as3 as4).mono fun e W' ⟨he, hg⟩ => ?_
  subst he
  rw [← ae3]
  rw [← ae4]
  exact ⟨_, rfl, post_of_stays hW' rfl (by simpa using hAk) (types_ok _ (by rw [Try.params4]; kernel_rfl)) rfl rfl (fun _ _ _ => (trodAll_cons_mk (shut_bool Try.underlying4 _) trodAll_mk0))
    hg (ok_one (by kernel_rfl) rfl (okWide_bool_mk Try.underlying4 _))⟩

theorem proved : Rows.BinApartSaid :=
  OpenClaim.holds_of_wide 4 Try.f4 rfl rfl rfl rfl rfl rfl rfl ⟨rfl, rfl, rfl, rfl, rfl⟩ rfl rfl rfl rfl rfl (by kernel_rfl) Try.func4 (by kernel_rfl)
    (of_decide_eq_true (by kernel_rfl)) (by unfold Func.isWrapper; first | (rw [if_pos (by decide +kernel)]; kernel_rfl) | (rw [if_neg (by decide +kernel)]; exact ⟨rfl, rfl⟩))
    (fun os started H enc _ => lifted os started H enc)
end Go.Proofs.Ytccadhfeiehmbaa.binApart
