/- An argument of bytes, opened. -/
import Derived.Test.YtmnnmndnpkanlaaStay
import Derived.Test.YtmnnmndnpkanlaaCat
import Derived.Test.YtmnnmndnpkanlaaIdRow
import Derived.ChangeSlices
namespace Go.Proofs.Ytmnnmndnpkanlaa
set_option linter.unusedVariables false
set_option linter.unusedSimpArgs false
open Go.ChangeShapes Go.WideShapes Go.ChangeAt Go.RowKit
theorem cellsU8 : Try.prog.cellsOf 5 = 1 := by kernel_rfl
/-- Cells of bytes, as numbers. -/
theorem bytes_nat : ∀ (zs : List Int), (∀ n ∈ zs, (Lit.int .u8 n).wf = true) → ∃ l : List Nat, zs = l.map (fun (c : Nat) => (c : Int)) ∧ ∀ c ∈ l, c < 256
  | [], _ => ⟨[], rfl, by simp⟩
  | z :: zs, h => by
    obtain ⟨n, rfl, hn⟩ := u8_nat (h z (by simp))
    obtain ⟨l, rfl, hl⟩ := bytes_nat zs (fun n hn => h n (by simp [hn]))
    exact ⟨n :: l, rfl, by intro c hc; rcases List.mem_cons.1 hc with rfl | hc; exact hn; exact hl c hc⟩
theorem plain_of_cell {w : World} {a : Addr} {v : Value} (h : w.cell? a = some v) : a = ⟨a.block, a.off, none⟩ ∧ a.block < w.heap.size := by
  refine ⟨?_, World.block_lt_of_cell? w a h⟩
  cases a with
  | mk b o s =>
    cases s with
    | none => rfl
    | some s =>
      exfalso
      simp only [World.cell?] at h
      split at h <;> simp at h
/-- What is shown by cells at whatever address. -/
theorem shows_of_cells {w : World} {a : Addr} {c : Nat} {xs : List Value} (h : ∀ j u, xs[j]? = some u → w.cell? (a.add j) = some u) : Shows w (.slice (some a) xs.length c) xs := by
  cases hx : xs with
  | nil => exact .inr ⟨_, _, rfl, rfl⟩
  | cons x r =>
    rw [hx] at h
    have h0 := h 0 x rfl
    have ha : a.add 0 = a := by unfold Addr.add; simp
    rw [ha] at h0
    obtain ⟨e, hb⟩ := plain_of_cell h0
    refine .inl ⟨a.block, a.off, c, by rw [e], hb, fun j u hj => ?_⟩
    have := h j u hj
    rw [e, add_off] at this
    exact this
theorem open_bytes {H : Type} {enc : TypeId × Value → H} {W : World} {v : Value} {d : DataW H} {p : List MemPlace} (h : DataW.Trod enc Try.prog W 0 (fun _ => true) true 22 v d p) (hv : v.cells = #[v]) :
    ∃ (q : Option Addr) (c : Nat) (l : List Nat), v = .slice q l.length c ∧ (∀ x ∈ l, x < 256) ∧ l.length ≤ maxLen ∧ Shows W (.slice q l.length c) (bys l) := by
  obtain ⟨fuel, hf⟩ := h
  rw [hv] at hf
  rcases open_ints Try.underlying22 Try.underlying5 cellsU8 hf with ⟨hcs, _⟩ | ⟨a, len, cap, zs, hcs, _, hl, hm, hz, _, hcell, hwz⟩
  · obtain rfl : v = .slice none 0 0 := by simpa using hcs
    exact ⟨none, 0, [], rfl, by simp, by simp, .inr ⟨_, _, rfl, rfl⟩⟩
  · obtain rfl : v = .slice (some a) len cap := by simpa using hcs
    simp only [if_true] at hz
    obtain ⟨l, rfl, hlb⟩ := bytes_nat zs hwz
    have hl2 : (l.take len).length = len := by rw [List.length_take]; rw [List.length_map] at hz; omega
    refine ⟨some a, cap, l.take len, by rw [hl2], fun x hx => hlb x (List.mem_of_mem_take hx), by omega, ?_⟩
    have := shows_of_cells (w := W) (a := a) (c := cap) (xs := bys (l.take len)) (fun j u hj => by
      have hj2 : j < (l.take len).length := by
        have := (List.getElem?_eq_some_iff.1 hj).1
        rwa [bys_len] at this
      rw [hl2] at hj2
      rw [List.length_map] at hz hcell
      rw [hcell j (by omega)]
      have hj3 : j < l.length := by omega
      simp only [bys, List.getElem?_map, List.getElem?_take, if_pos hj2, List.getElem?_eq_getElem hj3, Option.map_some, Option.some.injEq] at hj
      rw [← hj]
      simp [List.getD, hj3])
    rwa [bys_len] at this
end Go.Proofs.Ytmnnmndnpkanlaa
