/- sha.Of. -/
import Derived.Test.YtmnnmndnpkanlaaSumW
import Derived.Test.YtmnnmndnpkanlaaRowsRow
namespace Go.Proofs.Ytmnnmndnpkanlaa
set_option linter.unusedVariables false
set_option linter.unusedSimpArgs false
open Go.RowKit
set_option maxRecDepth 100000 in
set_option maxHeartbeats 1600000 in
theorem of_w (ls : List (List Nat)) (v : Value) (w : World) (hb : ∀ l ∈ ls, ∀ x ∈ l, x < 256) (hn : ls.length ≤ 1000000) (hl : ls.flatten.length ≤ 1073741824) (hv : RowsAt w v ls) :
    Calls Try.prog 14 #[v] w fun e w' => e = .returned (.agg (iv (sum ls.flatten))) ∧ Grew w w' := by
  have HV := Lib.hid hv
  clear hv
  go_enter Try.func14, Try.ntmps14
  go_wp2_with (go_at_call 17; refine stop_of ?_)
  unfold Stop
  obtain ⟨vs, h1, h2, h3⟩ := HV.out
  have g0 : Grew w (w.alloc (.cells (iv id0) 26)) := (by repeat (first | with_reducible exact Grew.refl _ | with_reducible apply Grew.alloc | with_reducible apply Grew.grow | with_reducible apply Grew.drew | with_reducible apply Grew.drewN))
  refine (concat_w ls vs v _ h1 (h2.grew g0) (fun k hk => (h3 k hk).grew g0) (by omega) (by omega)).mono ?_
  rintro e w2 ⟨v2, rfl, ho, hg⟩
  have HO := Lib.hid ho.shows
  have HG := Lib.hid (g0.trans hg)
  have r1 : w2.rowAt w.heap.size = iv id0 := by rw [Grew.rowAt hg _ (by simp)]; simp [go_sem]
  have r2 : w2.rowFree w.heap.size = true := by rw [Grew.rowFree hg _ (by simp)]; simp [go_sem]
  have hlt : w.heap.size < w2.heap.size := by have := hg.size; simp at this; omega
  have hbf : ∀ c ∈ ls.flatten, c < 256 := fun c hc => by
    obtain ⟨l, hl1, hl2⟩ := List.mem_flatten.1 hc
    exact hb l hl1 c hl2
  have HB := Lib.hid hbf
  have hsl := sum_len ls.flatten
  clear ho hg g0 h2 h3 hbf HV hb
  go_wp2_with (go_at_call 12; refine (sum_w ls.flatten _ _ hl HB.out HO.out).mono ?_; rintro e w' ⟨rfl, δ, rfl⟩)
  refine bodyPost_ret (id_result rfl _ rfl (l := sum ls.flatten) ?_ hsl) rfl ⟨rfl, ?_⟩
  · rw [rowAt_grow_old _ _ _ (by rw [setRow_size]; exact hlt), rowAt_setRow_free _ _ _ r2]
  · exact (Grew.setRow_new HG.out _ _ (Nat.le_refl _)).grow _
end Go.Proofs.Ytmnnmndnpkanlaa
