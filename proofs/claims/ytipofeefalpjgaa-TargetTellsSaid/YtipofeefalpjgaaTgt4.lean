/- target's Compact. -/
import Derived.Test.YtipofeefalpjgaaRows
import Derived.Test.YtipofeefalpjgaaWdMore
import Derived.ScopeJumps
import Derived.WalkMore
namespace Go
set_option linter.unusedVariables false
set_option linter.unusedSimpArgs false
/-- A scope whose run jumps back to one label: what is behind the label is walked once. -/
theorem wp_scope_once {P : Program} {a : Act} {w : World} {Q : Exit → Act → World → Prop} {c R : Code} (l : Nat) (J : Act → World → Prop) (μ : Act → World → Nat) (hf : findLabel c l = some (Code.skip.seq R))
    (pass : ∀ a w, J a w → R.wp P (Exit.jump l (fun a' w' => J a' w' ∧ μ a' w' < μ a w) Q) a w)
    (first : RowKit.Hid (∀ a w, J a w → R.wp P (Exit.jump l J Q) a w) → c.wp P (Exit.jump l J Q) a w) : (Code.scope c).wp P Q a w :=
  wp_scope_jumps l J μ hf (first (fun a w h => Code.wp_mono (fun e a' w' q => by
    cases e <;> first | exact q | exact ⟨q.1, q.2.1⟩) (pass a w h))) (fun a w h => wp_seq (wp_skip (pass a w h)))
end Go
namespace Go.Proofs.Ytipofeefalpjgaa
open Go.RowKit

/-- The compact number of a number, where E is 'k' + 3 at most. -/
def cpt (x : Nat) : Nat → Nat
  | 0 => if 8388608 ≤ x then 3 * 16777216 + 8388607 else if 32768 ≤ x then 3 * 16777216 + x else 0
  | k + 1 => if 8388608 ≤ x >>> (8 * (k + 1)) then (k + 4) * 16777216 + 8388607 else if 32768 ≤ x >>> (8 * (k + 1)) then (k + 4) * 16777216 + x >>> (8 * (k + 1)) else cpt x k
theorem cpt_a (x k : Nat) (h : 8388608 ≤ x >>> (8 * k)) : cpt x k = (k + 3) * 16777216 + 8388607 := by
  cases k <;> unfold cpt
  · rw [Nat.mul_zero, Nat.shiftRight_zero] at h; rw [if_pos h]
  · rw [if_pos h]
theorem cpt_b (x k : Nat) (h : ¬ 8388608 ≤ x >>> (8 * k)) (h2 : 32768 ≤ x >>> (8 * k)) : cpt x k = (k + 3) * 16777216 + x >>> (8 * k) := by
  cases k <;> unfold cpt
  · rw [Nat.mul_zero, Nat.shiftRight_zero] at h h2; rw [if_neg h, if_pos h2]; simp
  · rw [if_neg h, if_pos h2]
theorem cpt_c (x k : Nat) (h : ¬ 8388608 ≤ x >>> (8 * k)) (h2 : ¬ 32768 ≤ x >>> (8 * k)) : cpt x k = if k = 0 then 0 else cpt x (k - 1) := by
  cases k <;> conv => lhs; unfold cpt
  · rw [Nat.mul_zero, Nat.shiftRight_zero] at h h2; rw [if_neg h, if_neg h2]; rfl
  · rw [if_neg h, if_neg h2]; rfl
/-- E and M as one number. -/
def em (e m : Nat) : Nat := e * 16777216 + m
theorem em_bits (e m : Nat) (he : e < 128) (hm : m < 16777216) : bits .or .u32 ((e : Int) * 16777216) (m : Int) = ((em e m : Nat) : Int) := by
  have e1 : (e : Int) * 16777216 = ((e * 16777216 : Nat) : Int) := by omega
  have h1 : (BitVec.ofInt 32 ((e * 16777216 : Nat) : Int)).toNat = e * 16777216 := by
    rw [BitVec.ofInt_natCast, BitVec.toNat_ofNat]; exact Nat.mod_eq_of_lt (by omega)
  have h2 : (BitVec.ofInt 32 (m : Int)).toNat = m := by
    rw [BitVec.ofInt_natCast, BitVec.toNat_ofNat]; exact Nat.mod_eq_of_lt (by omega)
  rw [e1]
  show IntKind.u32.wrap ((BitVec.ofInt 32 ((e * 16777216 : Nat) : Int) ||| BitVec.ofInt 32 (m : Int)).toNat : Int) = _
  rw [BitVec.toNat_or, h1, h2, show e * 16777216 = e <<< 24 by rw [Nat.shiftLeft_eq], ← Nat.shiftLeft_add_eq_or_of_lt (show m < 2 ^ 24 from hm), Nat.shiftLeft_eq]
  show ((e * 2 ^ 24 + m : Nat) : Int) % 4294967296 = _
  unfold em
  omega

/-- What holds at the label. -/
def cptJ (t : Wd) (w : World) (a' : Act) (w' : World) : Prop := ∃ (k : Nat) (m : Wd) (δ : Junk) (u5 u6 u7 u8 u9 u10 u11 u12 u13 u14 u15 u16 u17 u18 u19 u20 u21 u22 u23 u24 u25 u26 u27 u28 u29 u30 u31 u32 u33 u34 : Value), k ≤ 29 ∧ cpt t.n k = cpt t.n 29 ∧
      a' = { tmps := #[.agg (wv t.n), .pointer (some ⟨w.heap.size, 0, none⟩), .int .u32 0, .int .i64 ((k : Int) + 3), .pointer (some ⟨w.heap.size + 1, 0, none⟩), u5, u6, u7, u8, u9, u10, u11, u12, u13, u14, u15, u16, u17, u18, u19, u20, u21, u22, u23, u24, u25, u26, u27, u28, u29, u30, u31, u32, u33, u34], defers := [] } ∧
      w' = ((w.alloc (.cells (wv t.n) 25)).alloc (.cells (wv m.n) 25)).grow δ
def cptM (a' : Act) (_ : World) : Nat := (intOf (a'.tmps.getD 3 undef)).toNat
theorem cptM_at (x0 x1 x2 : Value) (k : Int) (l : List Value) (d : List Deferred) (w : World) : cptM { tmps := ⟨x0 :: x1 :: x2 :: .int .i64 k :: l⟩, defers := d } w = k.toNat := rfl

set_option maxRecDepth 100000 in
set_option maxHeartbeats 1600000 in
theorem compact_w (t : Wd) (w : World) :
    Calls Try.prog 12 #[.agg (wv t.n)] w fun e w' => e = .returned (.int .u32 (cpt t.n 29)) ∧ Grew w w' := by
  go_enter Try.func12, Try.ntmps12
  go_wp2
  refine wp_scope_once 0 (cptJ t w) cptM rfl ?_ ?_
  · rintro a' w' ⟨k, m, δ, u5, u6, u7, u8, u9, u10, u11, u12, u13, u14, u15, u16, u17, u18, u19, u20, u21, u22, u23, u24, u25, u26, u27, u28, u29, u30, u31, u32, u33, u34, hk, hc, rfl, rfl⟩
    have hd := t.down_n (8 * k)
    rw [show ((8 * k : Nat) : Int) = 8 * (k : Int) by omega] at hd
    obtain ⟨d, hdw⟩ : ∃ d, t.down (8 * (k : Int)) = d := ⟨_, rfl⟩
    have hcall : ∀ w, Calls Try.prog 23 #[.agg (wv t.n), .int .i64 (8 * (k : Int))] w fun e w' => e = .returned (.agg (wv d.n)) ∧ Grew w w' := fun w => by rw [← hdw]; exact down_w t _ w
    rw [hdw] at hd
    have Hd := Lib.hid hd
    have Hcall := Lib.hid hcall
    have Hc := Lib.hid hc
    have ho : (Wd.of 8388608).n = 8388608 := of_val (by unfold B256; omega)
    by_cases hA : 8388608 ≤ d.n
    · have h1 : decide (0 ≤ d.cmp (Wd.of 8388608)) = true := by rw [Wd.cmp_ge]; unfold Wd.subOk; rw [ho]; simpa using hA
      have h2 : bits .or .u32 (((k : Int) + 3) * 16777216) 8388607 = ((em (k + 3) 8388607 : Nat) : Int) := em_bits (k + 3) 8388607 (by omega) (by omega)
      have HH : Hid (em (k + 3) 8388607 = cpt t.n 29) := by
        refine (?_ : _ = _)
        rw [← hc, cpt_a t.n k (by rw [← hd]; exact hA)]; rfl
      clear hd hcall hc hdw hA ho
      go_wp2_with (go_at_call 23; refine (Hcall.out _).mono ?_; rintro e w' ⟨rfl, δ, rfl⟩)
      first | refine wp_region_pure_lit_g (by kernel_rfl) (by kernel_rfl) ?_ | refine wp_region_pure_lit (by kernel_rfl) (by kernel_rfl) ?_
      repeat (go_big_quiet_step ((first | (go_at_call 19; exact Calls.pure_of (of_wd _ (by decide) _)) | (go_at_call 18; exact Calls.pure_of (cmp_w _ _ _)))))
      refine wpQuiet_nil ?_
      intro _ hw'
      obtain ⟨δ1, hw''⟩ := hw'
      subst hw''
      go_wp2
      simp only [Exit.jump]
      try rw [Exit.noGoto_ret]
      go_ret
      exact ⟨congrArg (fun n : Nat => Ending.returned (.int .u32 (n : Int))) HH.out, (by repeat (first | with_reducible exact Grew.refl _ | with_reducible apply Grew.alloc | with_reducible apply Grew.grow | with_reducible apply Grew.drew | with_reducible apply Grew.drewN))⟩
    · have h1 : decide (0 ≤ d.cmp (Wd.of 8388608)) = false := by rw [Wd.cmp_ge]; unfold Wd.subOk; rw [ho]; simpa using hA
      have hlb : lb d.n 0 = d.n := by rw [lb0]; omega
      by_cases hB : 32768 ≤ d.n
      · have hb : lb d.n 0 < 8388608 := by omega
        have h3 : decide (32768 ≤ (lb d.n 0 : Int)) = true := by rw [hlb]; simp; omega
        have h2 : bits .or .u32 (((k : Int) + 3) * 16777216) (lb d.n 0 : Int) = ((em (k + 3) (lb d.n 0) : Nat) : Int) := em_bits (k + 3) (lb d.n 0) (by omega) (by omega)
        have HH : Hid (em (k + 3) (lb d.n 0) = cpt t.n 29) := by
          refine (?_ : _ = _)
          rw [← hc, cpt_b t.n k (by rw [← hd]; exact hA) (by rw [← hd]; exact hB), hlb, ← hd]; rfl
        clear hd hcall hc hdw hA ho hB hlb
        go_wp2_with (go_at_call 23; refine (Hcall.out _).mono ?_; rintro e w' ⟨rfl, δ, rfl⟩)
        first | refine wp_region_pure_lit_g (by kernel_rfl) (by kernel_rfl) ?_ | refine wp_region_pure_lit (by kernel_rfl) (by kernel_rfl) ?_
        repeat (go_big_quiet_step ((first | (go_at_call 19; exact Calls.pure_of (of_wd _ (by decide) _)) | (go_at_call 18; exact Calls.pure_of (cmp_w _ _ _)))))
        refine wpQuiet_nil ?_
        intro _ hw'
        obtain ⟨δ1, hw''⟩ := hw'
        subst hw''
        go_wp2
        simp only [Exit.jump]
        try rw [Exit.noGoto_ret]
        go_ret
        exact ⟨congrArg (fun n : Nat => Ending.returned (.int .u32 (n : Int))) HH.out, (by repeat (first | with_reducible exact Grew.refl _ | with_reducible apply Grew.alloc | with_reducible apply Grew.grow | with_reducible apply Grew.drew | with_reducible apply Grew.drewN))⟩
      · have h3 : decide (32768 ≤ (lb d.n 0 : Int)) = false := by rw [hlb]; simp; omega
        have hcc := cpt_c t.n k (by rw [← hd]; exact hA) (by rw [← hd]; exact hB)
        have HCC := Lib.hid hcc
        clear hd hcall hc hdw hA ho hB hlb hcc
        cases k with
        | zero =>
          go_wp2_with (go_at_call 23; refine (Hcall.out _).mono ?_; rintro e w' ⟨rfl, δ, rfl⟩)
          first | refine wp_region_pure_lit_g (by kernel_rfl) (by kernel_rfl) ?_ | refine wp_region_pure_lit (by kernel_rfl) (by kernel_rfl) ?_
          repeat (go_big_quiet_step ((first | (go_at_call 19; exact Calls.pure_of (of_wd _ (by decide) _)) | (go_at_call 18; exact Calls.pure_of (cmp_w _ _ _)))))
          refine wpQuiet_nil ?_
          intro _ hw'
          obtain ⟨δ1, hw''⟩ := hw'
          subst hw''
          go_wp2
          simp only [Exit.jump]
          try rw [Exit.noGoto_ret]
          go_ret
          exact ⟨by rw [← Hc.out, HCC.out]; rfl, (by repeat (first | with_reducible exact Grew.refl _ | with_reducible apply Grew.alloc | with_reducible apply Grew.grow | with_reducible apply Grew.drew | with_reducible apply Grew.drewN))⟩
        | succ k =>
          have he : ((k : Int) + 1 + 3 == 3) = false := beq_eq_false_iff_ne.2 (by omega)
          have hs : ((k + 1 : Nat) : Int) = (k : Int) + 1 := by omega
          rw [hs] at *
          clear hs
          go_wp2_with (go_at_call 23; refine (Hcall.out _).mono ?_; rintro e w' ⟨rfl, δ, rfl⟩)
          first | refine wp_region_pure_lit_g (by kernel_rfl) (by kernel_rfl) ?_ | refine wp_region_pure_lit (by kernel_rfl) (by kernel_rfl) ?_
          repeat (go_big_quiet_step ((first | (go_at_call 19; exact Calls.pure_of (of_wd _ (by decide) _)) | (go_at_call 18; exact Calls.pure_of (cmp_w _ _ _)))))
          refine wpQuiet_nil ?_
          intro _ hw'
          obtain ⟨δ1, hw''⟩ := hw'
          subst hw''
          go_wp2
          go_step3
          refine ⟨rfl, ?_, ?_⟩
          · exact ⟨k, d, δ1, _, _, _, _, _, _, _, _, _, _, _, _, _, _, _, _, _, _, _, _, _, _, _, _, _, _, _, _, _, _, by omega, by rw [← Hc.out, HCC.out]; rfl, by rw [show (k : Int) + 1 + 3 - 1 = (k : Int) + 3 by omega], rfl⟩
          · rw [cptM_at, cptM_at]; omega
  · intro hp
    go_wp2
    go_step3
    go_step
    go_step
    refine hp.out _ _ ?_
    exact ⟨29, Wd.zero, ⟨#[], w.drawn⟩, _, _, _, _, _, _, _, _, _, _, _, _, _, _, _, _, _, _, _, _, _, _, _, _, _, _, _, _, _, _, by omega, rfl, rfl, (grow_self _).symm⟩
end Go.Proofs.Ytipofeefalpjgaa
