/- What bytes become, byte by byte; bytes as strings. -/
import Derived.Test.YtmnnmndnpkanlaaSumW
import Derived.Test.YtmnnmndnpkanlaaStr
namespace Go.Proofs.Ytmnnmndnpkanlaa
set_option linter.unusedVariables false
set_option linter.unusedSimpArgs false
open Go.RowKit
theorem byteAt_app (a b : List Nat) (i : Nat) : byteAt (a ++ b) i = if i < a.length then byteAt a i else byteAt b (i - a.length) := by
  unfold byteAt List.getD
  split
  · rename_i h; rw [List.getElem?_append_left h]
  · rename_i h; rw [List.getElem?_append_right (by omega)]
theorem byteAt_eq' (l : List Nat) (j : Nat) (h : j < l.length) : some (Value.int .u8 (byteAt l j : Nat)) = (bys l)[j]? := by rw [byteAt_eq l j h]; simp [bys, h]
theorem byteAt_zeros (n i : Nat) : byteAt (zeros n) i = 0 := by
  unfold byteAt zeros List.getD
  by_cases h : i < n
  · simp [h]
  · simp [h]
theorem byteAt_cons (c : Nat) (l : List Nat) (i : Nat) : byteAt (c :: l) (i + 1) = byteAt l i := by simp [byteAt, List.getD]
theorem tailk_8 (n : Nat) : tailk n 8 = [n / 2 ^ 56 % 256, n / 2 ^ 48 % 256, n / 2 ^ 40 % 256, n / 2 ^ 32 % 256, n / 2 ^ 24 % 256, n / 2 ^ 16 % 256, n / 2 ^ 8 % 256, n / 2 ^ 0 % 256] := rfl
theorem tailk_small (n : Nat) (h : n < 65536) : tailk n 8 = zeros 6 ++ [n / 256, n % 256] := by
  rw [tailk_8]
  simp only [zeros, List.replicate, List.cons_append, List.nil_append, List.cons.injEq]
  have e : ∀ k, 65536 ≤ 2 ^ k → n / 2 ^ k % 256 = 0 := fun k hk => by rw [Nat.div_eq_of_lt (by omega)]
  refine ⟨e 56 (by decide), e 48 (by decide), e 40 (by decide), e 32 (by decide), e 24 (by decide), e 16 (by decide), by omega, by omega, trivial⟩
/-- The zeros' number. -/
def padz (l : List Nat) : Nat := (64 - (l.length + 9) % 64) % 64
theorem pad_small (l : List Nat) (h : l.length ≤ 400) : pad l = (l ++ (128 :: zeros (padz l + 6))) ++ [8 * l.length / 256, 8 * l.length % 256] := by
  unfold pad
  rw [tailk_small _ (by omega)]
  have : zeros (padz l + 6) = zeros (padz l) ++ zeros 6 := by unfold zeros; rw [List.replicate_append_replicate]
  rw [this]
  simp [padz]
theorem pad_len' (l : List Nat) : (pad l).length = l.length + 9 + padz l := pad_len l
theorem padz_lt (l : List Nat) : padz l < 64 := Nat.mod_lt _ (by omega)
theorem pad_take (l : List Nat) : (pad l).take l.length = l := by unfold pad; rw [List.take_left]
theorem pad_at_len (l : List Nat) : byteAt (pad l) l.length = 128 := by
  unfold pad
  rw [byteAt_app, if_neg (by omega), Nat.sub_self]
  rfl
theorem pad_at_zero (l : List Nat) (h : l.length ≤ 400) (i : Nat) (h1 : l.length < i) (h2 : i < (pad l).length - 2) : byteAt (pad l) i = 0 := by
  have hp := pad_len' l
  rw [pad_small l h, byteAt_app, if_pos (by simp [zeros_len]; omega), byteAt_app, if_neg (by omega)]
  obtain ⟨j, hj⟩ : ∃ j, i - l.length = j + 1 := ⟨i - l.length - 1, by omega⟩
  rw [hj, byteAt_cons, byteAt_zeros]
theorem pad_at_end (l : List Nat) (h : l.length ≤ 400) : byteAt (pad l) ((pad l).length - 2) = 8 * l.length / 256 ∧ byteAt (pad l) ((pad l).length - 1) = 8 * l.length % 256 := by
  have hp := pad_len' l
  have hl : (l ++ (128 :: zeros (padz l + 6))).length = (pad l).length - 2 := by simp [zeros_len]; omega
  have e1 : (pad l).length - 1 = (pad l).length - 2 + 1 := by omega
  generalize (pad l).length = n at *
  rw [pad_small l h]
  constructor
  · rw [byteAt_app, if_neg (by omega), hl, Nat.sub_self]; rfl
  · rw [byteAt_app, if_neg (by omega), hl, e1, show n - 2 + 1 - (n - 2) = 1 by omega]; rfl
theorem foldl_push (l : List Nat) : ∀ (s : ByteArray), (l.map fun (c : Nat) => (c : Int)).foldl (fun r n => r.push (UInt8.ofNat n.toNat)) s = ⟨(s.data.toList ++ l.map UInt8.ofNat).toArray⟩ := by
  induction l with
  | nil => intro s; simp
  | cons a l ih =>
    intro s
    simp only [List.map_cons, List.foldl_cons, Int.toNat_natCast]
    rw [ih]
    simp [ByteArray.push]
/-- What is shown, as a string. -/
theorem shows_string {w : World} {v : Value} {l : List Nat} (h : Shows w v (bys l)) : (convert 22 9 v).run Try.prog w = .ok (.string (bstr l)) w := by
  have key : ∀ (a : Addr) (c : Nat), (∀ j u, (bys l)[j]? = some u → w.cell? (a.add j) = some u) → (convert 22 9 (.slice (some a) (bys l).length c)).run Try.prog w = .ok (.string (bstr l)) w := fun a c h => by
    have hl := run_loadCells_list (P := Try.prog) (w := w) a (bys l) h
    have hm : bys l = ((l.map fun (c : Nat) => (c : Int)).map (Value.int .u8)) := by simp [bys]
    rw [run_convert_bytes_string w _ _ 5 _ _ _ Try.underlying22 Try.underlying5 Try.underlying9, run_bytesToString w a _ c (l.map fun (c : Nat) => (c : Int)) (by rw [hl, hm]), foldl_push]
    rfl
  rcases h with ⟨b, o, c, rfl, hb, h⟩ | ⟨p, c, rfl, h0⟩
  · exact key _ c (fun j u hj => by rw [add_off]; exact h j u hj)
  · have hl : l = [] := by cases l with | nil => rfl | cons a l => simp [bys] at h0
    subst hl
    cases p with
    | some a => exact key a c (by simp [bys])
    | none =>
      rw [run_convert_bytes_string w _ _ 5 _ _ _ Try.underlying22 Try.underlying5 Try.underlying9]
      rfl
end Go.Proofs.Ytmnnmndnpkanlaa
