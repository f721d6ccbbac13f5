/- How the reader reads an id. -/
import Derived.Test.YtmnnmndnpkanlaaRows
import Derived.Test.YtmnnmndnpkanlaaRowBase
import Derived.Test.YtmnnmndnpkanlaaIdOps
import Derived.DataShut
namespace Go.Proofs.Ytmnnmndnpkanlaa
set_option linter.unusedVariables false
set_option linter.unusedSimpArgs false
open Go.ChangeShapes Go.WideShapes Go.ChangeAt Go.RowKit

theorem cellsId : Try.prog.cellsOf 26 = 32 := by kernel_rfl
theorem cells8 : Try.prog.cellsOf 5 = 1 := by kernel_rfl
theorem u8_nat {a : Int} (h : (Lit.int .u8 a).wf = true) : ∃ n : Nat, a = n ∧ n < 256 := by
  have hx := bounds_u8 h
  exact ⟨a.toNat, by omega, by omega⟩
theorem u32_nat {a : Int} (h : (Lit.int .u32 a).wf = true) : ∃ n : Nat, a = n ∧ n < 4294967296 := by
  have hx := bounds_u32 h
  exact ⟨a.toNat, by omega, by omega⟩
theorem wf_u8 (n : Nat) (h : n < 256) : (Lit.int .u8 (n : Int)).wf = true := by
  simp [Lit.wf, IntKind.min, IntKind.max, IntKind.signed, IntKind.bits]; omega

theorem bytes_of_trod {H : Type} {enc : TypeId × Value → H} {W : World} {base m : Nat} {sp : Nat → Bool} {cs : List Value} {xs : List (DataW H × List MemPlace)} (hl : xs.length = cs.length)
    (h : ∀ (i : Nat), i < cs.length → DataW.trod enc Try.prog W base sp true m 5 ((cs.drop i).take 1) = xs[i]?) :
    ∃ l : List Nat, cs = l.map (fun (c : Nat) => Value.int .u8 (c : Int)) ∧ (∀ c ∈ l, c < 256) ∧ xs = l.map (fun (c : Nat) => (.lit (.int .u8 (c : Int)), [])) := by
  induction cs generalizing xs with
  | nil =>
    have : xs = [] := List.length_eq_zero_iff.1 hl
    exact ⟨[], rfl, by simp, by rw [this]; rfl⟩
  | cons c cs ih =>
    cases xs with
    | nil => simp at hl
    | cons x xs =>
      have h0 := h 0 (by simp)
      simp only [List.drop_zero, List.take_succ_cons, List.take_zero, List.getElem?_cons_zero] at h0
      obtain ⟨n, e1, e2, wf⟩ := DataW.trod_int Try.underlying5 h0
      simp only [List.cons.injEq, and_true] at e1
      obtain ⟨k, rfl, hk⟩ := u8_nat wf
      obtain ⟨l, hl1, hl2, hl3⟩ := ih (xs := xs) (by simpa using hl) fun i hi => by
        have := h (i + 1) (by simp; omega)
        simpa using this
      exact ⟨k :: l, by rw [e1, hl1]; rfl, by simp [hk]; exact hl2, by rw [e2, hl3]; rfl⟩
theorem trod_bytes_mk {H : Type} {enc : TypeId × Value → H} (W : World) (base : Nat) (sp : Nat → Bool) (l : List Nat) (hl : l.length = 32) (hc : ∀ c ∈ l, c < 256) :
    DataW.Trod enc Try.prog W base sp true 26 (.agg (iv l)) (.agg (l.map fun (c : Nat) => .lit (.int .u8 (c : Int)))) [] := by
  refine ⟨2, ?_⟩
  unfold DataW.trod
  rw [under_id]
  have e1 : (Value.agg (iv l)).cells.toList = l.map (fun (c : Nat) => Value.int .u8 (c : Int)) := rfl
  rw [e1]
  simp only [List.length_map, hl, cellsId, cells8, Nat.mul_one, if_true]
  rw [mapM_some_of_get (List.range 32) (l.map fun (c : Nat) => ((.lit (.int .u8 (c : Int)), []) : DataW H × List MemPlace)) (by simp [hl]) ?_]
  · simp
  · intro i x hx
    have hi : i < 32 := by
      have := (List.getElem?_eq_some_iff.1 hx).1
      simpa using this
    have : x = i := by simpa [List.getElem?_range hi] using hx.symm
    subst this
    have e2 : ((l.map (fun (c : Nat) => Value.int .u8 (c : Int))).drop x).take 1 = [Value.int .u8 ((l[x]'(by omega) : Nat) : Int)] := by
      rw [List.drop_eq_getElem_cons (by simpa using (by omega : x < l.length))]
      simp
    rw [e2]
    have hw : (Lit.int .u8 ((l[x]'(by omega) : Nat) : Int)).wf = true := wf_u8 _ (hc _ (List.getElem_mem _))
    unfold DataW.trod
    rw [Try.underlying5]
    simp [hw, hl, hi]

set_option maxRecDepth 100000 in
set_option maxHeartbeats 400000 in
theorem open_id {H : Type} {enc : TypeId × Value → H} {W : World} {base : Nat} {sp : Nat → Bool} {v : Value} {d : DataW H} {p : List MemPlace}
    (hv : Value.okWide Try.prog W .any base 26 v) (h : DataW.Trod enc Try.prog W 0 sp true 26 v d p) :
    ∃ x : Idb, v = .agg (iv x.l) ∧ p = [] ∧ ∀ (W' : World) (sp' : Nat → Bool), DataW.Trod enc Try.prog W' 0 sp' true 26 (.agg (iv x.l)) d [] := by
  obtain ⟨cs, rfl, hsz, _⟩ : ∃ cs, v = .agg cs ∧ cs.size = Try.prog.cellsOf 26 ∧ Row.okWide Try.prog W .any base 26 cs := by
    simpa [Value.okWide, under_id] using hv
  rw [cellsId] at hsz
  obtain ⟨fuel, hf⟩ := h
  obtain ⟨xs, m, rfl, hx, hl, hn, hel⟩ := DataW.trod_array under_id hf
  have hcl : (Value.agg cs).cells.toList = cs.toList := rfl
  rw [hcl] at hel hl
  rw [cells8] at hel
  have hlen : cs.toList.length = 32 := by simpa using hsz
  obtain ⟨l, e1, e2, e3⟩ := bytes_of_trod (cs := cs.toList) (xs := xs) (by rw [hn, hlen]) (fun i hi => by
    have := hel i (by omega)
    simpa using this)
  have hll : l.length = 32 := by
    have := congrArg List.length e1
    rw [hlen] at this
    simpa using this.symm
  simp only [Prod.mk.injEq] at hx
  obtain ⟨hd, hp⟩ := hx
  refine ⟨⟨l, hll, e2⟩, ?_, ?_, fun W' sp' => ?_⟩
  · have : cs = iv l := by
      cases cs; simp only at e1; subst e1; rfl
    rw [this]
  · rw [hp, e3]
    simp
    try (induction l <;> simp_all)
  · have : d = .agg (l.map fun (c : Nat) => .lit (.int .u8 (c : Int))) := by
      rw [hd, e3, List.map_map]; rfl
    rw [this]
    exact trod_bytes_mk W' 0 sp' l hll e2
end Go.Proofs.Ytmnnmndnpkanlaa
