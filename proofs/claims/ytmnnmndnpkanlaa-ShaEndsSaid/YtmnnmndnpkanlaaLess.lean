/- sha.Less. -/
import Derived.Test.YtmnnmndnpkanlaaIdEq
import Derived.Lib.Bytealg
import Derived.Lib.BytesEntry
import Derived.Deep.RegionWith
namespace Go.Proofs.Ytmnnmndnpkanlaa
set_option linter.unusedVariables false
set_option linter.unusedSimpArgs false
open Go.RowKit
/-- Which of two rows of bytes comes first, as a number. -/
def cmpB (a b : List Nat) : Int := Lib.compareBytes (a.map UInt8.ofNat) (b.map UInt8.ofNat)
theorem cmpB_neg : ∀ (a b : List Nat), (∀ c ∈ a, c < 256) → (∀ c ∈ b, c < 256) → decide (cmpB a b < 0) = lexB a b
  | [], [], _, _ => by simp [cmpB, Lib.compareBytes, lexB]
  | [], _ :: _, _, _ => by simp [cmpB, Lib.compareBytes, lexB]
  | _ :: _, [], _, _ => by simp [cmpB, Lib.compareBytes, lexB]
  | x :: a, y :: b, ha, hb => by
    have ih := cmpB_neg a b (fun c hc => ha c (by simp [hc])) (fun c hc => hb c (by simp [hc]))
    have hx := ha x (by simp)
    have hy := hb y (by simp)
    have h1 : UInt8.ofNat x < UInt8.ofNat y ↔ x < y := u8_lt hx hy
    have h2 : UInt8.ofNat y < UInt8.ofNat x ↔ y < x := u8_lt hy hx
    unfold cmpB at ih ⊢
    simp only [List.map_cons, Lib.compareBytes, lexB, h1, h2]
    rw [← ih]
    rcases Nat.lt_trichotomy x y with h | h | h
    · simp [h]
    · subst h; simp
    · have h3 : ¬ x < y := by omega
      have h4 : ¬ x = y := by omega
      simp [h, h3, h4]
theorem run_compareRows {P : Program} (a b : List Nat) (ha : ∀ c ∈ a, c < 256) (hb : ∀ c ∈ b, c < 256) (g h c d : Nat) (w : World) (hg : w.rowAt g = iv a) (hh : w.rowAt h = iv b) :
    (Extern.BytealgCompare.compare #[.slice (some ⟨g, 0, none⟩) a.length c, .slice (some ⟨h, 0, none⟩) b.length d]).run P w = .ok (.int .i64 (cmpB a b)) w := by
  have key : ∀ (l : List Nat) (g : Nat), w.rowAt g = iv l → (Extern.Bytes.loadBytes ⟨g, 0, none⟩ l.length .empty).run P w = .ok (bstr l) w := by
    intro l g hr
    have hx := Lib.run_loadBytesX (P := P) w (l.map fun (c : Nat) => (c : Int)) ⟨g, 0, none⟩ .empty (fun j x hj => by
      have hadd : (⟨g, 0, none⟩ : Addr).add j = ⟨g, 0 + j, none⟩ := by unfold Addr.add; split <;> simp_all
      rw [hadd, cell_rowAt, hr, Nat.zero_add]
      simp only [List.getElem?_map] at hj
      simp only [iv, List.getElem?_toArray, List.getElem?_map]
      cases h : l[j]? with
      | none => rw [h] at hj; cases hj
      | some c => rw [h] at hj; simp at hj ⊢; exact hj)
    rw [List.length_map] at hx
    rw [hx]
    congr 1
    apply ByteArray.ext
    simp [bstr, Lib.bytesOf, Function.comp_def]
  change Sem.run P (do pure (goInt (Extern.BytealgCompare.cmp (← Extern.Bytes.bytesOf (.slice (some ⟨g, 0, none⟩) a.length c)) (← Extern.Bytes.bytesOf (.slice (some ⟨h, 0, none⟩) b.length d))))) w = _
  simp only [Extern.Bytes.bytesOf, Sem.run_bind, Sem.run_pure, key a g hg, key b h hh, Result.andThen]
  rw [Lib.cmp_eq]
  rfl
theorem compare_w (a b : List Nat) (ha : ∀ c ∈ a, c < 256) (hb : ∀ c ∈ b, c < 256) (la : a.length = 32) (lb : b.length = 32) (g h : Nat) (w : World) (hg : w.rowAt g = iv a) (hh : w.rowAt h = iv b) :
    Calls Try.prog 23 #[.slice (some ⟨g, 0, none⟩) 32 32, .slice (some ⟨h, 0, none⟩) 32 32] w fun e w' => e = .returned (.int .i64 (cmpB a b)) ∧ Grew w w' := by
  have hr := run_compareRows (P := Try.prog) a b ha hb g h 32 32 w hg hh
  rw [la, lb] at hr
  have HR := Lib.hid hr
  clear hr
  go_enter Try.func23, Try.ntmps23
  go_wp2
  rw [run_callFunc_extern Try.func30 (by kernel_rfl) (by kernel_rfl) (by kernel_rfl) (e := Extern.BytealgCompare.compare) (by kernel_rfl), HR.out]
  simp only [Result.andThen]
  rw [Oper.upon_value]
  go_wp2
  go_ret
  exact ⟨rfl, Grew.refl _⟩
def lessB (a b : List Nat) : Bool := lexB a b
set_option maxRecDepth 100000 in
theorem less_w (a b : Idb) (w : World) : Calls Try.prog 15 #[.agg (iv a.l), .agg (iv b.l)] w fun e w' => e = .returned (.bool (lexB a.l b.l)) ∧ Grew w w' := by
  have hn := cmpB_neg a.l b.l a.lt b.lt
  obtain ⟨c, hc⟩ : ∃ c, cmpB a.l b.l = c := ⟨_, rfl⟩
  rw [hc] at hn
  have HW := Lib.hid (fun g h w h1 h2 => hc ▸ compare_w a.l b.l a.lt b.lt a.len b.len g h w h1 h2)
  clear hc
  go_enter Try.func15, Try.ntmps15
  go_wp2
  first | refine wp_region_pure_lit_g (by kernel_rfl) (by kernel_rfl) ?_ | refine wp_region_pure_lit (by kernel_rfl) (by kernel_rfl) ?_
  repeat (go_big_quiet_step ((go_at_call 23; exact Calls.pure_of (HW.out _ _ _ (by simp [go_sem]) (by simp [go_sem])))))
  refine wpQuiet_nil ?_
  intro _ hw'
  obtain ⟨δ1, hw''⟩ := hw'
  subst hw''
  go_wp2
  go_ret
  exact ⟨rfl, (by repeat (first | with_reducible exact Grew.refl _ | with_reducible apply Grew.alloc | with_reducible apply Grew.grow | with_reducible apply Grew.drew | with_reducible apply Grew.drewN))⟩
theorem rless_math (a b : List Nat) : ∀ k, k ≤ 32 → a.length = 32 → b.length = 32 → (∀ j, j < k → byteAt a j = byteAt b j) → lexB a b = lexB (a.drop k) (b.drop k) := by
  intro k
  induction k with
  | zero => intro _ _ _ _; rfl
  | succ k ih =>
    intro h la lb hj
    rw [ih (by omega) la lb (fun j hj' => hj j (by omega)), List.drop_eq_getElem_cons (show k < a.length by omega), List.drop_eq_getElem_cons (show k < b.length by omega)]
    have := hj k (by omega)
    rw [byteAt_eq _ _ (by omega), byteAt_eq _ _ (by omega)] at this
    simp [lexB, this]
theorem rless_at (a b : List Nat) (k : Nat) (h : k < 32) (la : a.length = 32) (lb : b.length = 32) (hj : ∀ j, j < k → byteAt a j = byteAt b j) (hne : byteAt a k ≠ byteAt b k) : lexB a b = decide (byteAt a k < byteAt b k) := by
  rw [rless_math a b k (by omega) la lb hj, List.drop_eq_getElem_cons (show k < a.length by omega), List.drop_eq_getElem_cons (show k < b.length by omega)]
  rw [byteAt_eq _ _ (by omega), byteAt_eq _ _ (by omega)] at hne ⊢
  simp [lexB, hne]
theorem rless_all (a b : List Nat) (la : a.length = 32) (lb : b.length = 32) (hj : ∀ j, j < 32 → byteAt a j = byteAt b j) : lexB a b = false := by
  rw [rless_math a b 32 (by omega) la lb hj, List.drop_of_length_le (by omega), List.drop_of_length_le (by omega)]
  rfl
set_option maxRecDepth 100000 in
theorem rless_w (a b : Idb) (w : World) : Calls Try.prog 16 #[.agg (iv a.l), .agg (iv b.l)] w fun e w' => e = .returned (.bool (lexB a.l b.l)) ∧ Grew w w' := by
  have la := a.len
  have lb := b.len
  go_enter Try.func16, Try.ntmps16
  go_wp2
  go_loopw [5] (fun n wr => ∃ (k : Nat) (δ : Junk), k ≤ 32 ∧ n = .int .i64 k ∧ (∀ j, j < k → byteAt a.l j = byteAt b.l j) ∧ wr = ((w.alloc (.cells (iv a.l) 26)).alloc (.cells (iv b.l) 26)).grow δ) (fun n _ => 32 - (intOf n).toNat)
  case atStart => exact ⟨0, ⟨#[], w.drawn⟩, by omega, rfl, by omega, (grow_self _).symm⟩
  case round =>
    obtain ⟨k, δ, hk, rfl, hj, rfl⟩ := hrel
    have HJ := Lib.hid hj
    clear hj
    by_cases hn : k < 32
    · have hlt : (k : Int) < 32 := by omega
      have ha := iv_at a.l k (by omega)
      have hb := iv_at b.l k (by omega)
      by_cases he : byteAt a.l k = byteAt b.l k
      · have h1 : ((byteAt a.l k : Nat) : Int) = ((byteAt b.l k : Nat) : Int) := by rw [he]
        have HE := Lib.hid he
        clear he hk hn
        go_wp2
        first | refine wp_region_pure_lit_g (by kernel_rfl) (by kernel_rfl) ?_ | refine wp_region_pure_lit (by kernel_rfl) (by kernel_rfl) ?_
        repeat (go_big_quiet_step ((fail)))
        refine wpQuiet_nil ?_
        intro _ hw'
        obtain ⟨δ1, hw''⟩ := hw'
        subst hw''
        go_wp2
        exact ⟨⟨k + 1, _, by omega, by go_num, fun j hj => (Nat.lt_or_ge j k).elim (HJ.out j) (fun h => (show j = k by omega) ▸ HE.out), rfl⟩, by simp only [intOf]; omega⟩
      · have h1 : ¬ ((byteAt a.l k : Nat) : Int) = ((byteAt b.l k : Nat) : Int) := by omega
        have hr := rless_at a.l b.l k hn la lb HJ.out he
        have HE := Lib.hid hr
        clear he hk hn hr
        go_wp2
        first | refine wp_region_pure_lit_g (by kernel_rfl) (by kernel_rfl) ?_ | refine wp_region_pure_lit (by kernel_rfl) (by kernel_rfl) ?_
        repeat (go_big_quiet_step ((fail)))
        refine wpQuiet_nil ?_
        intro _ hw'
        obtain ⟨δ1, hw''⟩ := hw'
        subst hw''
        go_wp2
        first | refine wp_region_pure_lit_g (by kernel_rfl) (by kernel_rfl) ?_ | refine wp_region_pure_lit (by kernel_rfl) (by kernel_rfl) ?_
        repeat (go_big_quiet_step ((fail)))
        refine wpQuiet_nil ?_
        intro _ hw'
        obtain ⟨δ1, hw''⟩ := hw'
        subst hw''
        go_wp2
        go_ret
        exact ⟨by rw [HE.out]; rfl, (by repeat (first | with_reducible exact Grew.refl _ | with_reducible apply Grew.alloc | with_reducible apply Grew.grow | with_reducible apply Grew.drew | with_reducible apply Grew.drewN))⟩
    · obtain rfl : k = 32 := by omega
      have hr := Lib.hid (rless_all a.l b.l la lb HJ.out)
      clear hk hn
      go_wp2
      go_ret
      exact ⟨by rw [hr.out]; rfl, (by repeat (first | with_reducible exact Grew.refl _ | with_reducible apply Grew.alloc | with_reducible apply Grew.grow | with_reducible apply Grew.drew | with_reducible apply Grew.drewN))⟩
end Go.Proofs.Ytmnnmndnpkanlaa
