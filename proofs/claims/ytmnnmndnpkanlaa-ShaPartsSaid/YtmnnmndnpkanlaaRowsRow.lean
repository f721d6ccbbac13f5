/- An argument of slices of bytes, opened. -/
import Derived.Test.YtmnnmndnpkanlaaBytesRow
import Derived.Deep.Matrix
namespace Go.Proofs.Ytmnnmndnpkanlaa
set_option linter.unusedVariables false
set_option linter.unusedSimpArgs false
open Go.ChangeShapes Go.WideShapes Go.ChangeAt Go.RowKit
/-- The slice shows slices of these bytes. -/
def RowsAt (w : World) (v : Value) (ls : List (List Nat)) : Prop := ∃ vs : List Value, vs.length = ls.length ∧ Shows w v vs ∧ ∀ k, k < ls.length → Shows w (vs.getD k undef) (bys (ls.getD k []))
theorem RowsAt.grew {w w' : World} {v : Value} {ls : List (List Nat)} (h : RowsAt w v ls) (g : Grew w w') : RowsAt w' v ls := by
  obtain ⟨vs, h1, h2, h3⟩ := h
  exact ⟨vs, h1, h2.grew g, fun k hk => (h3 k hk).grew g⟩
theorem cellsBs : Try.prog.cellsOf 22 = 1 := by kernel_rfl
theorem open_rows {H : Type} {enc : TypeId × Value → H} {W : World} {v : Value} {d : DataW H} {p : List MemPlace} (h : DataW.Trod enc Try.prog W 0 (fun _ => true) true 30 v d p) (hv : v.cells = #[v]) :
    ∃ (q : Option Addr) (c : Nat) (ls : List (List Nat)), v = .slice q ls.length c ∧ (∀ l ∈ ls, ∀ x ∈ l, x < 256) ∧ (ls.length ≤ maxLen ∧ ∀ l ∈ ls, l.length ≤ maxLen) ∧ RowsAt W (.slice q ls.length c) ls := by
  obtain ⟨fuel, hf⟩ := h
  rw [hv] at hf
  rcases Deep.open_int_rows Try.underlying30 Try.underlying22 Try.underlying5 cellsBs cellsU8 hf with ⟨hcs, _⟩ | ⟨a, len, cap, A, L, C, Z, hcs, _, hl, hm, _, hr⟩
  · obtain rfl : v = .slice none 0 0 := by simpa using hcs
    exact ⟨none, 0, [], rfl, by simp, ⟨by simp, by simp⟩, [], rfl, .inr ⟨_, _, rfl, rfl⟩, by simp⟩
  · obtain rfl : v = .slice (some a) len cap := by simpa using hcs
    have each : ∀ r, r < cap → ∃ l : List Nat, l.length = L r ∧ (∀ x ∈ l, x < 256) ∧ l.length ≤ maxLen ∧ Shows W (.slice (A r) (L r) (C r)) (bys l) := fun r hr' => by
      obtain ⟨_, h1, h2, h3, h4, h5, h6⟩ := hr r hr'
      obtain ⟨l, hlz, hlb⟩ := bytes_nat (Z r) h4
      have hll : l.length = C r := by rw [← h3, hlz, List.length_map]
      have htl : (l.take (L r)).length = L r := by rw [List.length_take]; omega
      refine ⟨l.take (L r), htl, fun x hx => hlb x (List.mem_of_mem_take hx), by omega, ?_⟩
      cases hA : A r with
      | none =>
        have hc0 := h5 hA
        have hl0 : L r = 0 := by omega
        rw [hl0, List.take_zero]
        exact .inr ⟨_, _, rfl, rfl⟩
      | some a' =>
        obtain ⟨_, hcell⟩ := h6 a' hA
        have := shows_of_cells (w := W) (a := a') (c := C r) (xs := bys (l.take (L r))) (fun j u hj => by
          have hj2 : j < (l.take (L r)).length := by
            have := (List.getElem?_eq_some_iff.1 hj).1
            rwa [bys_len] at this
          rw [htl] at hj2
          rw [hcell j (by omega), hlz]
          have hj3 : j < l.length := by omega
          simp only [bys, List.getElem?_map, List.getElem?_take, if_pos hj2, List.getElem?_eq_getElem hj3, Option.map_some, Option.some.injEq] at hj
          rw [← hj]
          simp [List.getD, hj3])
        rwa [bys_len, htl] at this
    have pick : ∀ n, n ≤ len → ∃ ls : List (List Nat), ls.length = n ∧ ∀ r, r < n → (ls.getD r []).length = L r ∧ (∀ x ∈ ls.getD r [], x < 256) ∧ (ls.getD r []).length ≤ maxLen ∧ Shows W (.slice (A r) (L r) (C r)) (bys (ls.getD r [])) := by
      intro n
      induction n with
      | zero => exact fun _ => ⟨[], rfl, by omega⟩
      | succ n ih =>
        intro hn
        obtain ⟨ls, h1, h2⟩ := ih (by omega)
        obtain ⟨l, h3⟩ := each n (by omega)
        refine ⟨ls ++ [l], by simp [h1], fun r hr' => ?_⟩
        rcases Nat.lt_or_ge r n with h | h
        · have : (ls ++ [l]).getD r [] = ls.getD r [] := by simp [List.getD, List.getElem?_append_left (show r < ls.length by omega)]
          rw [this]; exact h2 r h
        · obtain rfl : r = n := by omega
          have : (ls ++ [l]).getD r [] = l := by simp [List.getD, ← h1]
          rw [this]; exact h3
    obtain ⟨ls, hls, hr2⟩ := pick len (Nat.le_refl _)
    have hmem : ∀ l ∈ ls, ∃ r, r < len ∧ ls.getD r [] = l := fun l hl' => by
      obtain ⟨r, hr', e⟩ := List.getElem_of_mem hl'
      exact ⟨r, by omega, by simp [List.getD, hr', e]⟩
    refine ⟨some a, cap, ls, by rw [hls], fun l hl' => ?_, ⟨by omega, fun l hl' => ?_⟩, (List.range len).map (fun r => .slice (A r) (L r) (C r)), by simp [hls], ?_, fun k hk => ?_⟩
    · obtain ⟨r, hr', rfl⟩ := hmem l hl'
      exact (hr2 r hr').2.1
    · obtain ⟨r, hr', rfl⟩ := hmem l hl'
      exact (hr2 r hr').2.2.1
    · have := shows_of_cells (w := W) (a := a) (c := cap) (xs := (List.range len).map (fun r => Value.slice (A r) (L r) (C r))) (fun j u hj => by
        have hj2 : j < len := by have := (List.getElem?_eq_some_iff.1 hj).1; simpa using this
        rw [(hr j (by omega)).1]
        simpa [hj2] using hj)
      rw [List.length_map, List.length_range] at this
      rw [hls]; exact this
    · rw [hls] at hk
      have : ((List.range len).map (fun r => Value.slice (A r) (L r) (C r))).getD k undef = .slice (A k) (L k) (C k) := by simp [List.getD, hk]
      rw [this]
      exact (hr2 k hk).2.2.2
end Go.Proofs.Ytmnnmndnpkanlaa
