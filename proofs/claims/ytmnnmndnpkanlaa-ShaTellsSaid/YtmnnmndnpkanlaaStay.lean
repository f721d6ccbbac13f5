/- What is handed over reads behind a call as it did, where the call has laid new memory alone. No program's function in sight. -/
import Derived.Test.YtmnnmndnpkanlaaRowBase
import Derived.Carry
namespace Go.Proofs.Ytmnnmndnpkanlaa
set_option linter.unusedVariables false
set_option linter.unusedSimpArgs false
open Go.ChangeShapes Go.WideShapes Go.ChangeAt Go.RowKit
theorem laidOut : laidOutB Try.prog = true := by kernel_rfl
theorem trodAll_stays {H : Type} {enc : TypeId × Value → H} {W W' : World} {sp : Nat → Bool} (hg : Grew W W') : ∀ (ts : List TypeId) {vs : List Value} {ds : List (DataW H)} {ps : List MemPlace},
    (∀ t ∈ ts, Try.prog.readableRec t = true ∧ t < Try.prog.types.size) → DataW.TrodAll enc Try.prog W 0 (fun _ => true) true ts vs ds ps → (∀ x ∈ ps, x.block < W.heap.size) → (∀ x ∈ ps, sp x.block = true) →
    DataW.TrodAll enc Try.prog W' 0 sp true ts vs ds ps
  | [], vs, ds, ps, _, h, _, _ => by
    obtain ⟨rfl, rfl, rfl⟩ := trodAll_nil h
    exact trodAll_mk0
  | t :: ts, vs, ds, ps, ht, h, hl, hs => by
    obtain ⟨v, vs', d, ds', p, q, rfl, rfl, rfl, h0, h1⟩ := trodAll_cons h
    have e := ht t (by simp)
    have hb := hg.below
    refine trodAll_cons_mk (WideElems.Trod_stays laidOut e.1 e.2 h0 (fun x hx => hb.same (hl x (by simp [hx]))) (fun x hx => hs x (by simp [hx]))) ?_
    exact trodAll_stays hg ts (fun t h => ht t (by simp [h])) h1 (fun x hx => hl x (by simp [hx])) (fun x hx => hs x (by simp [hx]))
theorem types_ok (ts : List TypeId) (h : (ts.all fun t => Try.prog.readableRec t && decide (t < Try.prog.types.size)) = true) : ∀ t ∈ ts, Try.prog.readableRec t = true ∧ t < Try.prog.types.size := fun t ht => by
  have := List.all_eq_true.1 h t ht
  simpa [Bool.and_eq_true, decide_eq_true_eq] using this
/-- Behind a call that leaves what was as it was. -/
theorem post_of_stays {H : Type} {enc : TypeId × Value → H} {f : Func} {s : ChangeSpec} {apart fresh handsOn again : Bool} {W W' : World} {args : Array Value} {v : Value} {ds gs : List (DataW H)} {pa : List MemPlace}
    (hW : DataW.Whole enc Try.prog f.params.toList s.vars apart W args.toList ds gs pa) (hvars0 : s.vars = [])
    (hA : DataW.TrodAll enc Try.prog W 0 (fun _ => true) true f.params.toList args.toList ds pa)
    (hty : ∀ t ∈ f.params.toList, Try.prog.readableRec t = true ∧ t < Try.prog.types.size)
    (hargs : (s.fn H (ds ++ gs)).args = ds) (hvarsd : (s.fn H (ds ++ gs)).vars = [])
    (hres : ∀ (b : Nat) (sp : Nat → Bool) (hd : Bool), DataW.TrodAll enc Try.prog W' b sp hd f.resultTypes.toList (v.resultList f.resultTypes.size) (s.fn H (ds ++ gs)).results [])
    (hg : Grew W W')
    (hok : ∀ (j : Nat) (t : TypeId) (r : Value), f.resultTypes[j]? = some t → (v.resultList f.resultTypes.size)[j]? = some r → Value.okWide Try.prog W' .any 0 t r) :
    s.post enc Try.prog f apart fresh handsOn again W args v W' :=
  post_of_old (pa := pa) (pv := []) hW hres (fun sp hsp => by rw [hargs]; exact trodAll_stays hg _ hty hA hW.lt hsp) (fun sp hsp => by rw [hvarsd, hvars0]; exact rfl) (by simp) hg hok
end Go.Proofs.Ytmnnmndnpkanlaa
