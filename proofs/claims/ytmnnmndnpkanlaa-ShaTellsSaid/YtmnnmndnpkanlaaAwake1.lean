/- The chapter's example. -/
import Derived.Test.YtmnnmndnpkanlaaSumW
import Derived.Test.YtmnnmndnpkanlaaAbc
import Derived.Deep.RegionWith
import Derived.Lib.SlBytesConst
namespace Go.Proofs.Ytmnnmndnpkanlaa
set_option linter.unusedVariables false
set_option linter.unusedSimpArgs false
open Go.RowKit
set_option maxRecDepth 100000 in
theorem sum_nil : sum [] = [227, 176, 196, 66, 152, 252, 28, 20, 154, 251, 244, 200, 153, 111, 185, 36, 39, 174, 65, 228, 100, 155, 147, 76, 164, 149, 153, 27, 120, 82, 184, 85] := by decide +kernel
def abc : List Nat := [186, 120, 22, 191, 143, 1, 207, 234, 65, 65, 64, 222, 93, 174, 34, 35, 176, 3, 97, 163, 150, 23, 122, 156, 180, 16, 255, 97, 242, 0, 21, 173]
def nils : List Nat := [227, 176, 196, 66, 152, 252, 28, 20, 154, 251, 244, 200, 153, 111, 185, 36, 39, 174, 65, 228, 100, 155, 147, 76, 164, 149, 153, 27, 120, 82, 184, 85]
theorem shows_alloc_m (w : World) (xs : List Value) (t : TypeId) (fr : Nat × Nat) (c : Nat) : Shows (w.alloc (.cells xs.toArray t fr)) (.slice (some ⟨w.heap.size, 0, none⟩) xs.length c) xs := by
  refine .inl ⟨_, _, _, rfl, by simp, fun j u hj => ?_⟩
  rw [cell_rowAt]
  simp [go_sem, hj]
@[go_sem] theorem conv_abc (w : World) : (convert 22 22 (.slice (some ⟨w.heap.size, 0, none⟩) 3 3)).run Try.prog (w.alloc (.cells #[.int .u8 97, .int .u8 98, .int .u8 99] 5)) = .ok (.slice (some ⟨w.heap.size, 0, none⟩) 3 3) (w.alloc (.cells #[.int .u8 97, .int .u8 98, .int .u8 99] 5 (3, 4))) :=
  Lib.run_convert_bytes_const w 22 5 _ 3 3 Try.underlying22 Try.underlying5
theorem sum_abc_w (w : World) : Calls Try.prog 12 #[.slice (some ⟨w.heap.size, 0, none⟩) 3 3] (w.alloc (.cells #[.int .u8 97, .int .u8 98, .int .u8 99] 5 (3, 4))) fun e w' => e = .returned (.agg (iv abc)) ∧ Grew w w' := by
  refine (sum_w [97, 98, 99] _ _ (by decide) (by decide) (shows_alloc_m w (bys [97, 98, 99]) 5 (3, 4) 3)).mono ?_
  rintro e w' ⟨rfl, hg⟩
  refine ⟨by rw [sum_abc]; rfl, (show Grew w (w.alloc _) from (by repeat (first | with_reducible exact Grew.refl _ | with_reducible apply Grew.alloc | with_reducible apply Grew.grow | with_reducible apply Grew.drew | with_reducible apply Grew.drewN))).trans hg⟩
theorem sum_nil_w (w : World) : Calls Try.prog 12 #[.slice none 0 0] w fun e w' => e = .returned (.agg (iv nils)) ∧ Grew w w' := by
  refine (sum_w [] _ _ (by decide) (by simp) (.inr ⟨_, _, rfl, rfl⟩)).mono ?_
  rintro e w' ⟨rfl, hg⟩
  exact ⟨by rw [sum_nil]; rfl, hg⟩
theorem pad_nil_w (w : World) : Calls Try.prog 10 #[.slice none 0 0] w fun e w' => (∃ b cap, e = .returned (.slice (some ⟨b, 0, none⟩) 64 cap)) ∧ Grew w w' := by
  refine (pad_o [] _ _ (by decide) (.inr ⟨_, _, rfl, rfl⟩)).mono ?_
  rintro e w' ⟨b, cap, K, rfl, hK, _, _, _, _, _, hg⟩
  have : (pad []).length = 64 := by decide
  rw [hK, this]
  exact ⟨⟨b, cap, rfl⟩, hg⟩
theorem abc_len : abc.length = 32 := rfl
theorem nils_len : nils.length = 32 := rfl
theorem abc_0 : byteAt abc 0 = 186 := rfl
theorem abc_1 : byteAt abc 1 = 120 := rfl
theorem abc_2 : byteAt abc 2 = 22 := rfl
theorem abc_3 : byteAt abc 3 = 191 := rfl
theorem abc_30 : byteAt abc 30 = 21 := rfl
theorem abc_31 : byteAt abc 31 = 173 := rfl
theorem nils_0 : byteAt nils 0 = 227 := rfl
set_option maxRecDepth 100000 in
set_option maxHeartbeats 1600000 in
theorem awake1_of (A N : List Nat) (l1 : A.length = 32) (l2 : N.length = 32) (f0 : byteAt A 0 = 186) (f1 : byteAt A 1 = 120) (f2 : byteAt A 2 = 22) (f3 : byteAt A 3 = 191) (f4 : byteAt A 30 = 21) (f5 : byteAt A 31 = 173) (f6 : byteAt N 0 = 227)
    (hA : ∀ w : World, Calls Try.prog 12 #[.slice (some ⟨w.heap.size, 0, none⟩) 3 3] (w.alloc (.cells #[.int .u8 97, .int .u8 98, .int .u8 99] 5 (3, 4))) fun e w' => e = .returned (.agg (iv A)) ∧ Grew w w')
    (hN : ∀ w : World, Calls Try.prog 12 #[.slice none 0 0] w fun e w' => e = .returned (.agg (iv N)) ∧ Grew w w') (w : World) :
    Calls Try.prog 9 #[] w fun e w' => e = .returned (.bool true) ∧ Grew w w' := by
  have HA := Lib.hid hA
  have HN := Lib.hid hN
  clear hA hN
  go_enter Try.func9, Try.ntmps9
  go_wp2_with (go_at_call 12; refine (HA.out _).mono ?_; rintro e w' ⟨rfl, δ, rfl⟩; refine stop_of ?_)
  unfold Stop
  go_wp2_with (first
    | (go_at_call 12; refine (HN.out _).mono ?_; rintro e w' ⟨rfl, δ, rfl⟩)
    | (go_at_call 10; refine (pad_nil_w _).mono ?_; rintro e w' ⟨⟨b, cap, rfl⟩, δ, rfl⟩))
  go_ret
  exact ⟨rfl, (by repeat (first | with_reducible exact Grew.refl _ | with_reducible apply Grew.alloc | with_reducible apply Grew.grow | with_reducible apply Grew.drew | with_reducible apply Grew.drewN))⟩
theorem awake1 (w : World) : Calls Try.prog 9 #[] w fun e w' => e = .returned (.bool true) ∧ Grew w w' :=
  awake1_of abc nils abc_len nils_len abc_0 abc_1 abc_2 abc_3 abc_30 abc_31 nils_0 sum_abc_w sum_nil_w w
end Go.Proofs.Ytmnnmndnpkanlaa
