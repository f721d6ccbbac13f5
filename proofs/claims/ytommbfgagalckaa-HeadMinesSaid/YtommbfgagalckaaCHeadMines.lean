/- 'stepladderlaw08.HeadMines' answers true for every head, int, int, without panicking, and what it was handed reads as before. Conditions: none. -/
import Derived.Test.YtommbfgagalckaaRows
import Derived.Test.YtommbfgagalckaaM6
/- HeadMines: the walk. -/
namespace Go.Proofs.Ytommbfgagalckaa
open Go.RowKit
set_option maxRecDepth 100000
set_option linter.unusedVariables false
set_option linter.unusedSimpArgs false
/-- What is mined, by cases: the first one found, a later one, none. -/
theorem mine_cases (h : Hd) (tries : Int) (ht : tries ≤ 30) :
    (hmine h tries = (h, true) ∧ hmay h = true ∧ 0 < tries) ∨
    (∃ i : Nat, hmine h tries = (h.up i, true) ∧ 0 < i ∧ (i : Int) < tries ∧ hmay h = false ∧ hmay (h.up i) = true ∧ ∀ k : Nat, k < i → hmay (h.up k) = false) ∨
    (hmine h tries = (h, false) ∧ (0 < tries → hmay h = false) ∧ ∀ k : Nat, (k : Int) < tries → hmay (h.up k) = false) := by
  cases hf : firstM h 0 (tryN tries) with
  | none =>
    refine .inr (.inr ⟨by unfold hmine; rw [hf], ?_, ?_⟩)
    · intro h0
      have := firstM_none hf 0 (Nat.le_refl _) (by unfold tryN; omega)
      rwa [h.up_zero] at this
    · intro k hk
      exact firstM_none hf k (Nat.zero_le _) (by unfold tryN; omega)
  | some i =>
    obtain ⟨_, h2, h3, h4⟩ := firstM_some hf
    have hm : hmine h tries = (h.up i, true) := by unfold hmine; rw [hf]
    have hi : (i : Int) < tries := by unfold tryN at h2; omega
    rcases Nat.eq_zero_or_pos i with rfl | h0
    · rw [h.up_zero] at hm h3
      exact .inl ⟨hm, h3, by omega⟩
    · refine .inr (.inl ⟨i, hm, h0, hi, ?_, h3, fun k hk => h4 k (Nat.zero_le _) hk⟩)
      have := h4 0 (Nat.zero_le _) h0
      rwa [h.up_zero] at this
set_option maxHeartbeats 6400000 in
theorem headMines_walk (h : Hd) (tries k : Int) (w : World) : Calls Try.prog 8 #[h.v, .int .i64 tries, .int .i64 k] w fun e w' => e = .returned (.bool true) ∧ Grew w w' := by
  have ha0 := h.a.len
  have hb0 := h.b.len
  have hc0 := h.c.len
  have hd0 := h.d.len
  have e3 : Hd.eq h h = true := (Hd.eq_iff h h).2 rfl
  unfold Hd.v
  go_enter Try.func8, Try.ntmps8
  go_wp2_with (go_at_call 9; refine stop_of ?_)
  unfold Stop
  refine Calls_abs ?_
  intro X hX
  have GG' : Grew w X := by rw [hX]; exact (by repeat (first | with_reducible exact Grew.refl _ | with_reducible apply Grew.alloc | with_reducible apply Grew.grow | with_reducible apply Grew.drew | with_reducible apply Grew.drewN))
  have B3' : HBox h X (w.heap.size) := ⟨by rw [hX]; simp [go_sem], by rw [hX]; simp only [World.size_alloc]; omega⟩
  obtain ⟨gB3, hgB3⟩ : ∃ g, w.heap.size = g := ⟨_, rfl⟩
  rw [hgB3] at B3' ⊢
  clear hgB3
  clear hX
  refine (awake_w X).mono ?_
  rintro e W ⟨rfl, hg⟩
  have GG := Lib.hid (GG'.trans hg)
  clear GG'
  have B3 := Lib.hid (B3'.grew hg)
  have rB3 := B3.out.r
  have lB3 := B3.out.lt
  clear B3'
  clear hg
  by_cases ht : tries ≤ 30
  rotate_left
  · go_wp2
    go_ret
    exact ⟨rfl, GG.out.trans (by repeat (first | with_reducible exact Grew.refl _ | with_reducible apply Grew.alloc | with_reducible apply Grew.grow | with_reducible apply Grew.drew | with_reducible apply Grew.drewN))⟩
  rcases mine_cases h tries ht with ⟨hm, h1, h2⟩ | ⟨i, hm, h1, h2, h3, h4, h5⟩ | ⟨hm, h1, h2⟩
  · have CM := Lib.hid (fun W => hmine_w h tries W)
    rw [hm] at CM
    have C1 := Lib.hid (fun W => hmay_w h W)
    rw [h1] at C1
    clear h1
    clear hm
    go_wp2_with (go_at_call 23; refine stop_of ?_)
    unfold Stop
    refine (CM.out W).mono ?_
    rintro e W0 ⟨rfl, hg⟩
    unfold Hd.v
    have b3 := B3.out.grew hg
    have r3 := b3.r
    have l3 := b3.lt
    have l3' : gB3 < W0.heap.size + 1 := by omega
    have c3 := b3.c134
    have BB := Lib.hid b3
    have G0 := Lib.hid (GG.out.trans hg)
    clear b3 hg B3 rB3 lB3 GG
    go_wp2_with (go_at_call 16; refine stop_of ?_)
    unfold Stop
    refine Calls_abs ?_
    intro Y hY
    have gY : Grew W0 Y := by rw [hY]; exact (by repeat (first | with_reducible exact Grew.refl _ | with_reducible apply Grew.alloc | with_reducible apply Grew.grow | with_reducible apply Grew.drew | with_reducible apply Grew.drewN))
    have b3 := BB.out.grew gY
    have b8 : HBox (h) Y W0.heap.size := by rw [hY]; exact ⟨by simp [go_sem]; try rfl, by simp only [World.size_alloc]; omega⟩
    have b10 : HBox h Y (W0.heap.size + 1) := by rw [hY]; exact ⟨by simp [go_sem], by simp only [World.size_alloc]; omega⟩
    have f10 : Y.rowFree (W0.heap.size + 1) = true := by rw [hY]; simp [go_sem]
    have G1 := Lib.hid (G0.out.trans gY)
    have hw10 : w.heap.size ≤ W0.heap.size + 1 := Nat.le_succ_of_le G0.out.size
    obtain ⟨g8, hg8⟩ : ∃ g, W0.heap.size = g := ⟨_, rfl⟩
    rw [hg8] at hw10
    rw [hg8] at b8 b10 f10 ⊢
    obtain ⟨g10, hg10⟩ : ∃ g, g8 + 1 = g := ⟨_, rfl⟩
    rw [hg10] at b10 f10 hw10 ⊢
    have LE := Lib.hid hw10
    clear hw10
    clear hY gY hg8 hg10 r3 l3 l3' c3 BB G0
    have r3 := b3.r
    have l3 := b3.lt
    have c3 := b3.c134
    have r8 := b8.r
    have l8 := b8.lt
    have r10 := b10.r
    have l10 := b10.lt
    clear b3 b8 b10 f10
    refine (C1.out Y).mono ?_
    rintro e W1 ⟨rfl, δ, rfl⟩
    go_wp2_with (go_at_call 16; refine (C1.out _).mono ?_; rintro e w' ⟨rfl, δ1, rfl⟩)
    all_goals
      go_ret
      exact ⟨rfl, G1.out.trans (by repeat (first | with_reducible exact Grew.refl _ | with_reducible apply Grew.alloc | with_reducible apply Grew.grow | with_reducible apply Grew.drew | with_reducible apply Grew.drewN))⟩
  · have HU : ∀ n W, Calls Try.prog 16 #[.agg (hda h.ht h.a.l h.b.l h.c.l h.d.l h.w.n h.bi (h.up n).no)] W fun e w' => e = .returned (.bool (hmay (h.up n))) ∧ Grew W w' := fun n W => hmay_w (h.up n) W
    have CM := Lib.hid (show ∀ W, Calls Try.prog 23 #[.agg (hda h.ht h.a.l h.b.l h.c.l h.d.l h.w.n h.bi h.no), .int .i64 tries] W fun e w' => e = .returned (.tuple #[.agg (hda h.ht h.a.l h.b.l h.c.l h.d.l h.w.n h.bi (h.up i).no), .bool true]) ∧ Grew W w' from fun W => by
      have := hmine_w h tries W
      rw [hm] at this
      exact this)
    have C1 := Lib.hid (fun W => hmay_w h W)
    rw [h3] at C1
    have C2 := Lib.hid (HU i)
    rw [h4] at C2
    have hnu : (h.up i).no = (h.no + i) % 18446744073709551616 := rfl
    have hnb := h.hn
    obtain ⟨n0, hn0⟩ : ∃ n, (h.up i).no = n := ⟨_, rfl⟩
    rw [hn0] at CM C2 hnu
    have hw0 : IntKind.u64.wrap ((n0 : Int) - (h.no : Int)) = (i : Int) := by rw [IntKind.wrap_u64, hnu]; omega
    have H5 := Lib.hid h5
    have HU' := Lib.hid HU
    have HW := Lib.hid hw0
    clear h3 h4 h5 hnu hn0 HU hnb hw0 hm
    go_wp2_with (go_at_call 23; refine stop_of ?_)
    unfold Stop
    refine (CM.out W).mono ?_
    rintro e W0 ⟨rfl, hg⟩
    have b3 := B3.out.grew hg
    have r3 := b3.r
    have l3 := b3.lt
    have l3' : gB3 < W0.heap.size + 1 := by omega
    have c3 := b3.c134
    have BB := Lib.hid b3
    have G0 := Lib.hid (GG.out.trans hg)
    clear b3 hg B3 rB3 lB3 GG
    have hw0 := HW.out
    go_wp2_with (go_at_call 16; refine stop_of ?_)
    unfold Stop
    refine Calls_abs ?_
    intro Y hY
    have gY : Grew W0 Y := by rw [hY]; exact (by repeat (first | with_reducible exact Grew.refl _ | with_reducible apply Grew.alloc | with_reducible apply Grew.grow | with_reducible apply Grew.drew | with_reducible apply Grew.drewN))
    have b3 := BB.out.grew gY
    have r8 : Y.rowAt W0.heap.size = hda h.ht h.a.l h.b.l h.c.l h.d.l h.w.n h.bi n0 := by rw [hY]; simp [go_sem]
    have l8 : W0.heap.size < Y.heap.size := by rw [hY]; simp only [World.size_alloc]; omega
    have b10 : HBox h Y (W0.heap.size + 1) := by rw [hY]; exact ⟨by simp [go_sem], by simp only [World.size_alloc]; omega⟩
    have f10 : Y.rowFree (W0.heap.size + 1) = true := by rw [hY]; simp [go_sem]
    have G1 := Lib.hid (G0.out.trans gY)
    have hw10 : w.heap.size ≤ W0.heap.size + 1 := Nat.le_succ_of_le G0.out.size
    obtain ⟨g8, hg8⟩ : ∃ g, W0.heap.size = g := ⟨_, rfl⟩
    rw [hg8] at hw10
    rw [hg8] at r8 l8 b10 f10 ⊢
    obtain ⟨g10, hg10⟩ : ∃ g, g8 + 1 = g := ⟨_, rfl⟩
    rw [hg10] at b10 f10 hw10 ⊢
    have LE := Lib.hid hw10
    clear hw10
    clear hY gY hg8 hg10 r3 l3 l3' c3 BB G0
    have r3 := b3.r
    have l3 := b3.lt
    have c3 := b3.c134
    have r10 := b10.r
    have l10 := b10.lt
    clear hw0
    refine (C2.out Y).mono ?_
    rintro e W1 ⟨rfl, δ, rfl⟩
    have BT := Lib.hid (And.intro b10 (And.intro f10 b3))
    clear b3 b10 f10
    go_wp2_with (go_at_call 16; refine stop_of ?_)
    unfold Stop
    refine Calls_abs ?_
    intro Z hZ
    have gZ : Grew Y Z := by rw [hZ]; exact ⟨δ, rfl⟩
    clear hZ r3 l3 c3 r8 l8 r10 l10
    refine (C1.out Z).mono ?_
    rintro e W2 ⟨rfl, hg⟩
    have b10 := BT.out.1.grew (gZ.trans hg)
    have f10 : W2.rowFree g10 = true := by rw [rowFree_of_heap ((gZ.trans hg).heap BT.out.1.lt)]; exact BT.out.2.1
    have c3 := (BT.out.2.2.grew (gZ.trans hg)).c134
    have r10 := b10.r
    have l10 := b10.lt
    have c10 := b10.c134
    have z10 : W2.frozen? ⟨g10, 134, none⟩ = false := by
      have := (there_row f10 (o := 134) (n := 1) (by rw [r10, hda_size _ _ _ _ _ _ _ _ ha0 hb0 hc0 hd0]; omega) 0 (by omega)).2
      rwa [Nat.add_zero] at this
    have G3 := Lib.hid (G1.out.trans (gZ.trans hg))
    clear gZ hg b10 BT
    by_cases k0 : k < 0
    · go_wp2
      go_ret
      exact ⟨rfl, G3.out.trans (by repeat (first | with_reducible exact Grew.refl _ | with_reducible apply Grew.alloc | with_reducible apply Grew.grow | with_reducible apply Grew.drew | with_reducible apply Grew.drewN))⟩
    by_cases k1 : tries ≤ k
    · go_wp2
      go_ret
      exact ⟨rfl, G3.out.trans (by repeat (first | with_reducible exact Grew.refl _ | with_reducible apply Grew.alloc | with_reducible apply Grew.grow | with_reducible apply Grew.drew | with_reducible apply Grew.drewN))⟩
    by_cases hik : (i : Int) ≤ k
    · go_wp2
      go_ret
      exact ⟨rfl, G3.out.trans (by repeat (first | with_reducible exact Grew.refl _ | with_reducible apply Grew.alloc | with_reducible apply Grew.grow | with_reducible apply Grew.drew | with_reducible apply Grew.drewN))⟩
    obtain ⟨kn, rfl⟩ : ∃ n : Nat, k = n := ⟨k.toNat, by omega⟩
    have C3 := Lib.hid (HU'.out kn)
    rw [H5.out kn (by omega)] at C3
    have hsc : W2.setCell ⟨g10, 134, none⟩ (.int .u64 (IntKind.u64.wrap ((h.no : Int) + (kn : Int)))) = W2.setRow g10 (hda h.ht h.a.l h.b.l h.c.l h.d.l h.w.n h.bi (h.up kn).no) := by
      have e : IntKind.u64.wrap ((h.no : Int) + (kn : Int)) = (((h.up kn).no : Nat) : Int) := by rw [IntKind.wrap_u64, show (h.up kn).no = (h.no + kn) % 18446744073709551616 from rfl]; omega
      rw [e]
      have h2 := setCell_setRow_free W2 g10 (W2.rowAt g10) f10 134 (.int .u64 ((h.up kn).no : Nat))
      rw [setRow_same' _ _ f10, r10, set_no _ _ _ _ _ _ _ _ h.a.len h.b.len h.c.len h.d.len] at h2
      exact h2
    obtain ⟨nk, hnk⟩ : ∃ n, (h.up kn).no = n := ⟨_, rfl⟩
    rw [hnk] at hsc C3
    clear hnk
    go_wp2_with (go_at_call 16; refine stop_of ?_)
    unfold Stop
    refine (C3.out _).mono ?_
    rintro e W4 ⟨rfl, hg⟩
    have G4 := Lib.hid ((G3.out.grown (grownBy_setRow _ _ _) (fun j hj => by cases hj; exact LE.out)).trans hg)
    clear hg
    go_wp2
    go_ret
    exact ⟨rfl, G4.out⟩
  · have CM := Lib.hid (fun W => hmine_w h tries W)
    rw [hm] at CM
    have HU' := Lib.hid (fun n W => (show Calls Try.prog 16 #[.agg (hda h.ht h.a.l h.b.l h.c.l h.d.l h.w.n h.bi (h.up n).no)] W fun e w' => e = .returned (.bool (hmay (h.up n))) ∧ Grew W w' from hmay_w (h.up n) W))
    have H5 := Lib.hid h2
    have H1 := Lib.hid h1
    clear h1 h2
    clear hm
    go_wp2_with (go_at_call 23; refine stop_of ?_)
    unfold Stop
    refine (CM.out W).mono ?_
    rintro e W0 ⟨rfl, hg⟩
    unfold Hd.v
    have b3 := B3.out.grew hg
    have r3 := b3.r
    have l3 := b3.lt
    have l3' : gB3 < W0.heap.size + 1 := by omega
    have c3 := b3.c134
    have BB := Lib.hid b3
    have G0 := Lib.hid (GG.out.trans hg)
    clear b3 hg B3 rB3 lB3 GG
    by_cases h0 : 0 < tries
    · have C1 := Lib.hid (fun W => hmay_w h W)
      rw [H1.out h0] at C1
      go_wp2_with (go_at_call 16; refine stop_of ?_)
      unfold Stop
      refine Calls_abs ?_
      intro Y hY
      have gY : Grew W0 Y := by rw [hY]; exact (by repeat (first | with_reducible exact Grew.refl _ | with_reducible apply Grew.alloc | with_reducible apply Grew.grow | with_reducible apply Grew.drew | with_reducible apply Grew.drewN))
      have b3 := BB.out.grew gY
      have b8 : HBox (h) Y W0.heap.size := by rw [hY]; exact ⟨by simp [go_sem]; try rfl, by simp only [World.size_alloc]; omega⟩
      have b10 : HBox h Y (W0.heap.size + 1) := by rw [hY]; exact ⟨by simp [go_sem], by simp only [World.size_alloc]; omega⟩
      have f10 : Y.rowFree (W0.heap.size + 1) = true := by rw [hY]; simp [go_sem]
      have G1 := Lib.hid (G0.out.trans gY)
      have hw10 : w.heap.size ≤ W0.heap.size + 1 := Nat.le_succ_of_le G0.out.size
      obtain ⟨g8, hg8⟩ : ∃ g, W0.heap.size = g := ⟨_, rfl⟩
      rw [hg8] at hw10
      rw [hg8] at b8 b10 f10 ⊢
      obtain ⟨g10, hg10⟩ : ∃ g, g8 + 1 = g := ⟨_, rfl⟩
      rw [hg10] at b10 f10 hw10 ⊢
      have LE := Lib.hid hw10
      clear hw10
      clear hY gY hg8 hg10 r3 l3 l3' c3 BB G0
      have r3 := b3.r
      have l3 := b3.lt
      have c3 := b3.c134
      have r8 := b8.r
      have l8 := b8.lt
      have r10 := b10.r
      have l10 := b10.lt
      have gZ : Grew Y Y := Grew.refl Y
      have BT := Lib.hid (And.intro b10 (And.intro f10 b3))
      clear b3 b8 b10 f10 r3 l3 c3 r8 l8 r10 l10
      refine (C1.out Y).mono ?_
      rintro e W2 ⟨rfl, hg⟩
      have b10 := BT.out.1.grew (gZ.trans hg)
      have f10 : W2.rowFree g10 = true := by rw [rowFree_of_heap ((gZ.trans hg).heap BT.out.1.lt)]; exact BT.out.2.1
      have c3 := (BT.out.2.2.grew (gZ.trans hg)).c134
      have r10 := b10.r
      have l10 := b10.lt
      have c10 := b10.c134
      have z10 : W2.frozen? ⟨g10, 134, none⟩ = false := by
        have := (there_row f10 (o := 134) (n := 1) (by rw [r10, hda_size _ _ _ _ _ _ _ _ ha0 hb0 hc0 hd0]; omega) 0 (by omega)).2
        rwa [Nat.add_zero] at this
      have G3 := Lib.hid (G1.out.trans (gZ.trans hg))
      clear gZ hg b10 BT
      by_cases k0 : k < 0
      · go_wp2
        go_ret
        exact ⟨rfl, G3.out.trans (by repeat (first | with_reducible exact Grew.refl _ | with_reducible apply Grew.alloc | with_reducible apply Grew.grow | with_reducible apply Grew.drew | with_reducible apply Grew.drewN))⟩
      by_cases k1 : tries ≤ k
      · go_wp2
        go_ret
        exact ⟨rfl, G3.out.trans (by repeat (first | with_reducible exact Grew.refl _ | with_reducible apply Grew.alloc | with_reducible apply Grew.grow | with_reducible apply Grew.drew | with_reducible apply Grew.drewN))⟩
      skip
      obtain ⟨kn, rfl⟩ : ∃ n : Nat, k = n := ⟨k.toNat, by omega⟩
      have C3 := Lib.hid (HU'.out kn)
      rw [H5.out kn (by omega)] at C3
      have hsc : W2.setCell ⟨g10, 134, none⟩ (.int .u64 (IntKind.u64.wrap ((h.no : Int) + (kn : Int)))) = W2.setRow g10 (hda h.ht h.a.l h.b.l h.c.l h.d.l h.w.n h.bi (h.up kn).no) := by
        have e : IntKind.u64.wrap ((h.no : Int) + (kn : Int)) = (((h.up kn).no : Nat) : Int) := by rw [IntKind.wrap_u64, show (h.up kn).no = (h.no + kn) % 18446744073709551616 from rfl]; omega
        rw [e]
        have h2 := setCell_setRow_free W2 g10 (W2.rowAt g10) f10 134 (.int .u64 ((h.up kn).no : Nat))
        rw [setRow_same' _ _ f10, r10, set_no _ _ _ _ _ _ _ _ h.a.len h.b.len h.c.len h.d.len] at h2
        exact h2
      obtain ⟨nk, hnk⟩ : ∃ n, (h.up kn).no = n := ⟨_, rfl⟩
      rw [hnk] at hsc C3
      clear hnk
      go_wp2_with (go_at_call 16; refine stop_of ?_)
      unfold Stop
      refine (C3.out _).mono ?_
      rintro e W4 ⟨rfl, hg⟩
      have G4 := Lib.hid ((G3.out.grown (grownBy_setRow _ _ _) (fun j hj => by cases hj; exact LE.out)).trans hg)
      clear hg
      go_wp2
      go_ret
      exact ⟨rfl, G4.out⟩
    · go_wp2
      all_goals
        go_ret
        exact ⟨rfl, G0.out.trans (by repeat (first | with_reducible exact Grew.refl _ | with_reducible apply Grew.alloc | with_reducible apply Grew.grow | with_reducible apply Grew.drew | with_reducible apply Grew.drewN))⟩
end Go.Proofs.Ytommbfgagalckaa
namespace Go.Proofs.Ytommbfgagalckaa.headMines
set_option linter.unusedVariables false
set_option linter.unusedSimpArgs false
open Go.ChangeShapes Go.WideShapes Go.ChangeAt Go.RowKit

set_option maxRecDepth 100000 in
theorem lifted (os : Os) (started : os.Started) (H : Type) (enc : TypeId × Value → H) :
    ReturnsInHanded {} Try.checked os 8 .any (Rows.headMinesSpec.pre6 enc Try.prog Try.f8 Rows.headMinesRow.domain false) (Rows.headMinesSpec.post enc Try.prog Try.f8 false true false false) := by
  refine returnsInHanded_of_change (C := Try.checked) own started (by kernel_rfl) Try.func8
    (ChangeSpec.witness6 (enc := enc) (C := Try.checked) false ⟨#[], #[.agg (hda 0 id0 id0 id0 id0 0 0 0), .int .i64 0, .int .i64 0], []⟩ 8 (by kernel_rfl) (by kernel_rfl) (by kernel_rfl) (by kernel_rfl)) ?_
  intro W base args ds gs before hval0 hW _ _
  have hval : ∀ (j : Nat) t v, Try.f8.params[j]? = some t → args[j]? = some v → Value.okWide Try.prog W .any base t v := hval0
  have hW' := hW
  obtain ⟨p, q, hA0, hV, rfl, hfz, hnd⟩ := hW
  have hA : DataW.TrodAll enc Try.prog W 0 (fun _ => true) true Try.f8.params.toList args.toList ds p := hA0
  have hAk := hA
  rw [Try.params8] at hA hval
  obtain ⟨v0, vs0, d0, ds0, p0, q0, hargs0, rfl, rfl, h0, r0⟩ := trodAll_cons hA
  obtain ⟨v1, vs1, d1, ds1, p1, q1, hargs1, rfl, rfl, h1, r1⟩ := trodAll_cons r0
  obtain ⟨v2, vs2, d2, ds2, p2, q2, hargs2, rfl, rfl, h2, r2⟩ := trodAll_cons r1
  obtain ⟨rfl, rfl, rfl⟩ := trodAll_nil r2
  subst hargs2
  subst hargs1
  obtain rfl : args = #[v0, v1, v2] := by cases args; simp_all
  obtain ⟨rfl, rfl⟩ := trodVars_none hV
  obtain ⟨a0, rfl⟩ := open_head (hval 0 29 v0 rfl rfl) h0
  obtain ⟨a1, rfl, rfl, _, w1⟩ := open_int Try.underlying3 (hval 1 3 v1 rfl rfl) h1
  obtain ⟨a2, rfl, rfl, _, w2⟩ := open_int Try.underlying3 (hval 2 3 v2 rfl rfl) h2
  simp only [List.append_nil] at hW'
  refine (headMines_walk a0 a1 a2 W ).mono fun e W' ⟨he, hg⟩ => ?_
  subst he
  exact ⟨_, rfl, post_of_stays hW' rfl (by simpa using hAk) (types_ok _ (by rw [Try.params8]; kernel_rfl)) rfl rfl (fun _ _ _ => (trodAll_cons_mk (shut_bool Try.underlying4 _) trodAll_mk0))
    hg (ok_one (by kernel_rfl) rfl (okWide_bool_mk Try.underlying4 _))⟩

theorem proved : Rows.HeadMinesSaid :=
  OpenClaim.holds_of_wide 8 Try.f8 rfl rfl rfl rfl rfl rfl rfl ⟨rfl, rfl, rfl, rfl, rfl⟩ rfl rfl rfl rfl rfl (by kernel_rfl) Try.func8 (by kernel_rfl)
    (of_decide_eq_true (by kernel_rfl)) (by unfold Func.isWrapper; first | (rw [if_pos (by decide +kernel)]; kernel_rfl) | (rw [if_neg (by decide +kernel)]; exact ⟨rfl, rfl⟩))
    (fun os started H enc _ => lifted os started H enc)
end Go.Proofs.Ytommbfgagalckaa.headMines
