/- What the statements of this chapter rest on, part 7. Conditions: none. -/
import Derived.DataShut
import Derived.Test.YtnhcamklammcdaaRows
import Derived.Deep.Slices
import Derived.Deep.Fields
import Derived.Test.YtnhcamklammcdaaM6
/- mmr.Check. -/
namespace Go.Proofs.Ytnhcamklammcdaa
set_option linter.unusedVariables false
set_option linter.unusedSimpArgs false
open Go.RowKit
set_option maxRecDepth 100000
/-- A row of so many cells is not the steps' own. -/
theorem ownE_apart {w : World} {base : Nat} {e : TypeId} {v : Value} {ls : List Stp} (h : OwnE 3 Stp.cs w base e v ls) (b n : Nat) (hb : (w.rowAt b).size = n) (hn : n % 3 ≠ 0) : v.ownBlock ≠ some b := by
  rcases h.form with ⟨rfl, rfl⟩ | ⟨g, cap, rfl, _⟩
  · simp [Value.ownBlock]
  · intro he
    obtain rfl : g = b := by simpa [Value.ownBlock] using he
    obtain ⟨_, _, hs, _⟩ := ownG_row h
    rw [hb] at hs
    omega
/-- What holds in the loop. -/
structure CkS (w : World) (root : Tot) (g : Nat) (v : Value) (L : List Stp) (wr : World) (x : Tot) (a : Wd) : Prop where
  p0 : wr.rowAt w.heap.size = ta root.h.l root.w.n root.n
  p1 : wr.rowAt (w.heap.size + 1) = ta x.h.l x.w.n x.n
  f1 : wr.rowFree (w.heap.size + 1) = true
  p2 : wr.rowAt (w.heap.size + 1 + 1) = wv 0
  f2 : wr.rowFree (w.heap.size + 1 + 1) = true
  pg : wr.rowAt g = wv a.n
  fg : wr.rowFree g = true
  lg : w.heap.size + 1 + 1 < g
  hg : g < wr.heap.size
  ow : OwnE 3 Stp.cs wr w.heap.size 58 v L
  gr : Grew w wr
theorem CkS.grew {w : World} {root : Tot} {g : Nat} {v : Value} {L : List Stp} {wr W : World} {x : Tot} {a : Wd} (h : CkS w root g v L wr x a) (k : Grew wr W) : CkS w root g v L W x a := by
  have h0 := h.hg; have h1 := h.lg; have hs := k.size
  exact ⟨by rw [Grew.rowAt k _ (by omega)]; exact h.p0, by rw [Grew.rowAt k _ (by omega)]; exact h.p1, by rw [Grew.rowFree k _ (by omega)]; exact h.f1, by rw [Grew.rowAt k _ (by omega)]; exact h.p2,
    by rw [Grew.rowFree k _ (by omega)]; exact h.f2, by rw [Grew.rowAt k _ (by omega)]; exact h.pg, by rw [Grew.rowFree k _ (by omega)]; exact h.fg, h1, by omega, h.ow.grew k, h.gr.trans k⟩
theorem CkS.setX {w : World} {root : Tot} {g : Nat} {v : Value} {L : List Stp} {wr : World} {x : Tot} {a : Wd} (h : CkS w root g v L wr x a) (y : Tot) : CkS w root g v L (wr.setRow (w.heap.size + 1) (ta y.h.l y.w.n y.n)) y a := by
  have h0 := h.hg; have h1 := h.lg
  have e : ∀ k, w.heap.size + 1 ≠ k → (wr.setRow (w.heap.size + 1) (ta y.h.l y.w.n y.n)).heap[k]? = wr.heap[k]? := fun k hk => World.heap_setRow_ne _ _ _ _ hk
  exact ⟨by rw [rowAt_of_heap (e _ (by omega))]; exact h.p0, rowAt_setRow_free _ _ _ h.f1, rowFree_setRow_free _ _ _ h.f1, by rw [rowAt_of_heap (e _ (by omega))]; exact h.p2,
    by rw [rowFree_of_heap (e _ (by omega))]; exact h.f2, by rw [rowAt_of_heap (e _ (by omega))]; exact h.pg, by rw [rowFree_of_heap (e _ (by omega))]; exact h.fg, h1, by rw [setRow_size]; exact h0,
    ownE_setRow h.ow _ (ownE_apart h.ow _ 37 (by rw [h.p1, ta_size _ _ _ x.h.len]) (by decide)) _, Grew.setRow_new h.gr _ _ (by omega)⟩
theorem CkS.setA {w : World} {root : Tot} {g : Nat} {v : Value} {L : List Stp} {wr : World} {x : Tot} {a : Wd} (h : CkS w root g v L wr x a) (b : Wd) : CkS w root g v L (wr.setRow g (wv b.n)) x b := by
  have h0 := h.hg; have h1 := h.lg
  have e : ∀ k, g ≠ k → (wr.setRow g (wv b.n)).heap[k]? = wr.heap[k]? := fun k hk => World.heap_setRow_ne _ _ _ _ hk
  exact ⟨by rw [rowAt_of_heap (e _ (by omega))]; exact h.p0, by rw [rowAt_of_heap (e _ (by omega))]; exact h.p1, by rw [rowFree_of_heap (e _ (by omega))]; exact h.f1, by rw [rowAt_of_heap (e _ (by omega))]; exact h.p2,
    by rw [rowFree_of_heap (e _ (by omega))]; exact h.f2, rowAt_setRow_free _ _ _ h.fg, rowFree_setRow_free _ _ _ h.fg, h1, by rw [setRow_size]; exact h0,
    ownE_setRow h.ow _ (ownE_apart h.ow _ 4 (by rw [h.pg]; rfl) (by decide)) _, Grew.setRow_new h.gr _ _ (by omega)⟩
theorem results_wide_bool {fn : Func} {q p : Tmp} {g : Nat} {w : World} (r : Option Wd) (hr : fn.results = #[.cell p 27, .tmp q]) (tmps : Array Value) (hp : tmps.getD p undef = .pointer (some ⟨g, 0, none⟩)) (hq : tmps.getD q undef = .bool r.isSome) (h : w.rowAt g = wv (r.getD Wd.zero).n) :
    (results fn tmps).run Try.prog w = .ok (chkV r) w := by
  have h4 : (w.rowAt g).size = 3 + 1 := by rw [h]; rfl
  obtain ⟨t, fr, hg⟩ := row_of_size w h4
  have hp' : tmps[p]?.getD undef = .pointer (some ⟨g, 0, none⟩) := by simpa using hp
  have hq' : tmps[q]?.getD undef = .bool r.isSome := by simpa using hq
  have hl := run_loadVar_row (P := Try.prog) w g t 27 _ fr _ hg under_wide rfl (by rw [h4]; exact size_wide)
  rw [h] at hl
  simp [results, hr, hp', hq', asAddr, hl, chkV]
theorem wd_none : ((none : Option Wd).getD Wd.zero).n = 0 := rfl
@[go_sem] theorem ta_at (h : List Nat) (w : Nat) (n : Int) (hh : h.length = 32) (hk : 36 < (ta h w n).size) : (ta h w n)[36]'hk = .int .i64 n := by
  have := ta_n h w n hh
  rw [Array.getElem?_eq_getElem hk] at this
  exact Option.some.inj this
@[go_sem] theorem store_wide0 (w : World) (g : Nat) (h : (w.rowAt g).size = 4) (hf : w.rowFree g = true) : (rowStore 27 (.pointer (some ⟨g, 0, none⟩)) (.agg #[.int .u64 0, .int .u64 0, .int .u64 0, .int .u64 0])).run Try.prog w = .ok .skip (w.setRow g (wv 0)) := store_wide w g 0 h hf
theorem chkV_none : chkV none = .tuple #[.agg (wv 0), .bool false] := rfl
theorem ck_mid {w : World} {root : Tot} {g : Nat} {v : Value} {L : List Stp} {wr W : World} {x y : Tot} {a : Wd} {o n : Int} {l : Bool} (h : CkS w root g v L wr x a) (hg : Grew ((wr.alloc (.cells (st o n l) 58)).alloc (.cells (ta y.h.l y.w.n y.n) 29)) W) :
    CkS w root g v L W x a ∧ W.rowAt (wr.heap.size + 1) = ta y.h.l y.w.n y.n ∧ W.cell? ⟨wr.heap.size, 1, none⟩ = some (.int .i64 n) ∧ W.cell? ⟨wr.heap.size, 2, none⟩ = some (.bool l) ∧ W.cell? ⟨wr.heap.size + 1, 36, none⟩ = some (.int .i64 y.n) ∧ wr.heap.size + 1 < W.heap.size ∧ wr.heap.size < W.heap.size := by
  have hs := hg.size
  simp only [World.size_alloc] at hs
  have e1 : W.rowAt wr.heap.size = st o n l := by rw [Grew.rowAt hg _ (by simp; omega)]; simp [go_sem]
  have e2 : W.rowAt (wr.heap.size + 1) = ta y.h.l y.w.n y.n := by rw [Grew.rowAt hg _ (by simp)]; simp [go_sem]
  exact ⟨h.grew ((show Grew wr _ from (by repeat (first | with_reducible exact Grew.refl _ | with_reducible apply Grew.alloc | with_reducible apply Grew.grow | with_reducible apply Grew.drew | with_reducible apply Grew.drewN))).trans hg), e2, by rw [cell_rowAt, e1]; rfl, by rw [cell_rowAt, e1]; rfl, by rw [cell_rowAt, e2]; exact ta_n _ _ _ y.h.len, by omega, by omega⟩
theorem ck_set {w : World} {root : Tot} {g : Nat} {v : Value} {L : List Stp} {wr : World} {x : Tot} {a : Wd} (h : CkS w root g v L wr x a) (q : Nat) (hq : w.heap.size + 1 < q) :
    (∀ C, (wr.setRow (w.heap.size + 1) C).rowAt g = wv a.n) ∧ (∀ C, (wr.setRow (w.heap.size + 1) C).rowFree g = true) ∧ (∀ C, (wr.setRow (w.heap.size + 1) C).rowAt q = wr.rowAt q) := by
  have h1 := h.lg
  exact ⟨fun C => by rw [rowAt_of_heap (World.heap_setRow_ne _ _ _ _ (by omega))]; exact h.pg, fun C => by rw [rowFree_of_heap (World.heap_setRow_ne _ _ _ _ (by omega))]; exact h.fg, fun C => rowAt_of_heap (World.heap_setRow_ne _ _ _ _ (by omega))⟩
theorem ck_pre {w A : World} {root leaf : Tot} (hr : root.h.l.length = 32) (hl : leaf.h.l.length = 32) {n m : Int} (hg : Grew (((w.alloc (.cells (ta root.h.l root.w.n n) 29)).alloc (.cells (ta leaf.h.l leaf.w.n m) 29)).alloc (.cells (wv 0) 27)) A) :
    A.rowAt w.heap.size = ta root.h.l root.w.n n ∧ A.rowAt (w.heap.size + 1) = ta leaf.h.l leaf.w.n m ∧ A.rowFree (w.heap.size + 1) = true ∧ A.rowAt (w.heap.size + 1 + 1) = wv 0 ∧ A.rowFree (w.heap.size + 1 + 1) = true ∧ w.heap.size + 1 + 1 < A.heap.size ∧ Grew w A := by
  have hs := hg.size
  simp only [World.size_alloc] at hs
  refine ⟨?_, ?_, ?_, ?_, ?_, by omega, (show Grew w _ from (by repeat (first | with_reducible exact Grew.refl _ | with_reducible apply Grew.alloc | with_reducible apply Grew.grow | with_reducible apply Grew.drew | with_reducible apply Grew.drewN))).trans hg⟩
  · rw [Grew.rowAt hg _ (by simp; omega)]; simp [go_sem]
  · rw [Grew.rowAt hg _ (by simp)]; simp [go_sem]
  · rw [Grew.rowFree hg _ (by simp)]; simp [go_sem]
  · rw [Grew.rowAt hg _ (by simp)]; simp [go_sem]
  · rw [Grew.rowFree hg _ (by simp)]; simp [go_sem]
set_option maxHeartbeats 6400000 in
theorem check_w (root : Tot) (i : Int) (leaf : Tot) (path : List Tot) (v : Value) (w : World) (hv : ShowsT w v path) (hp : path.length ≤ 1000000) :
    Calls Try.prog 15 #[.agg (ta root.h.l root.w.n root.n), .int .i64 i, .agg (ta leaf.h.l leaf.w.n leaf.n), v] w fun e w' => e = .returned (chkV (chkO root i leaf path)) ∧ Grew w w' := by
  obtain ⟨p, c, rfl⟩ := showsT_form hv
  have HV := Lib.hid hv
  clear hv
  have hrl := root.h.len
  have hll := leaf.h.len
  obtain ⟨rn, hrn⟩ : ∃ rn, root.n = rn := ⟨_, rfl⟩
  obtain ⟨ln, hln⟩ : ∃ ln, leaf.n = ln := ⟨_, rfl⟩
  by_cases h1 : rn < 1
  · have HC := Lib.hid (chkO_no (root := root) (i := i) (leaf := leaf) path (by omega))
    rw [hrn, hln]
    clear hrn hln
    go_enter Try.func15, Try.ntmps15
    go_wp2
    exact bodyPost_ret (v := chkV none) (results_wide_bool none rfl _ rfl rfl (by rw [wd_none]; simp [go_sem])) rfl ⟨by rw [HC.out], (by repeat (first | with_reducible exact Grew.refl _ | with_reducible apply Grew.alloc | with_reducible apply Grew.grow | with_reducible apply Grew.drew | with_reducible apply Grew.drewN))⟩
  by_cases h2 : 64 < rn
  · have HC := Lib.hid (chkO_no (root := root) (i := i) (leaf := leaf) path (by omega))
    rw [hrn, hln]
    clear hrn hln
    go_enter Try.func15, Try.ntmps15
    go_wp2
    exact bodyPost_ret (v := chkV none) (results_wide_bool none rfl _ rfl rfl (by rw [wd_none]; simp [go_sem])) rfl ⟨by rw [HC.out], (by repeat (first | with_reducible exact Grew.refl _ | with_reducible apply Grew.alloc | with_reducible apply Grew.grow | with_reducible apply Grew.drew | with_reducible apply Grew.drewN))⟩
  by_cases h3 : i < 0
  · have HC := Lib.hid (chkO_no (root := root) (i := i) (leaf := leaf) path (by omega))
    rw [hrn, hln]
    clear hrn hln
    go_enter Try.func15, Try.ntmps15
    go_wp2
    exact bodyPost_ret (v := chkV none) (results_wide_bool none rfl _ rfl rfl (by rw [wd_none]; simp [go_sem])) rfl ⟨by rw [HC.out], (by repeat (first | with_reducible exact Grew.refl _ | with_reducible apply Grew.alloc | with_reducible apply Grew.grow | with_reducible apply Grew.drew | with_reducible apply Grew.drewN))⟩
  by_cases h4 : rn ≤ i
  · have HC := Lib.hid (chkO_no (root := root) (i := i) (leaf := leaf) path (by omega))
    rw [hrn, hln]
    clear hrn hln
    go_enter Try.func15, Try.ntmps15
    go_wp2
    exact bodyPost_ret (v := chkV none) (results_wide_bool none rfl _ rfl rfl (by rw [wd_none]; simp [go_sem])) rfl ⟨by rw [HC.out], (by repeat (first | with_reducible exact Grew.refl _ | with_reducible apply Grew.alloc | with_reducible apply Grew.grow | with_reducible apply Grew.drew | with_reducible apply Grew.drewN))⟩
  by_cases h5 : ln = 1
  rotate_left
  · have HC := Lib.hid (chkO_no (root := root) (i := i) (leaf := leaf) path (by omega))
    have h5' : (ln == 1) = false := by simpa using h5
    rw [hrn, hln]
    clear hrn hln
    go_enter Try.func15, Try.ntmps15
    go_wp2
    exact bodyPost_ret (v := chkV none) (results_wide_bool none rfl _ rfl rfl (by rw [wd_none]; simp [go_sem])) rfl ⟨by rw [HC.out], (by repeat (first | with_reducible exact Grew.refl _ | with_reducible apply Grew.alloc | with_reducible apply Grew.grow | with_reducible apply Grew.drew | with_reducible apply Grew.drewN))⟩
  subst h5
  obtain ⟨N, rfl⟩ : ∃ N : Nat, rn = (N : Int) := ⟨rn.toNat, by omega⟩
  obtain ⟨j, rfl⟩ : ∃ j : Nat, i = (j : Int) := ⟨i.toNat, by omega⟩
  have hin : chkIn root j leaf = true := decide_eq_true ⟨by omega, by omega, by omega, by omega, hln⟩
  have hst := fun W => steps_w N j (by omega) (by omega) (by omega) W
  have hsl := stps_len N j (by omega)
  have hco : chkO root j leaf path = if (stps N j).length = path.length then (climbT (stps N j) path (some (leaf, Wd.zero))).bind fun p => if Tot.eq p.1 root = true then some p.2 else none else none := by
    unfold chkO
    rw [hin, hrn]
    simp
  rw [show (stpF N 0 N j).reverse = stps N j from rfl] at hst
  obtain ⟨L, hL⟩ : ∃ L, stps N j = L := ⟨_, rfl⟩
  rw [hL] at hst hsl hco
  obtain ⟨R, hR⟩ : ∃ R, chkO root j leaf path = R := ⟨_, rfl⟩
  rw [hR] at hco ⊢
  have HST := Lib.hid hst
  have HCO := Lib.hid hco
  have hLN : (L.length : Int) ≤ 64 := by omega
  obtain ⟨M, hM⟩ : ∃ M, L.length = M := ⟨_, rfl⟩
  obtain ⟨Q, hQ⟩ : ∃ Q, path.length = Q := ⟨_, rfl⟩
  have HM := Lib.hid hM
  have HQ := Lib.hid hQ
  rw [hM] at hLN
  rw [hQ] at HV hp ⊢
  have hQI : (Q : Int) ≤ 1000000 := by omega
  have a1 : ¬ ((N : Int) < 1) := by omega
  have a2 : ¬ ((64 : Int) < (N : Int)) := by omega
  have a4 : ¬ ((N : Int) ≤ (j : Int)) := by omega
  have HRN := Lib.hid hrn
  have HLN := Lib.hid hln
  rw [hrn, hln]
  clear hst hco hL hR hM hQ hin hrn hln h1 h2 h3 h4 hsl hp
  by_cases hMQ : M = Q
  rotate_left
  · have hn1 : ((M : Int) == (Q : Int)) = false := by simp; omega
    have hn2 : ¬ ((M : Int) = (Q : Int)) := by omega
    have hR : R = none := by rw [HCO.out, HM.out, HQ.out, if_neg hMQ]
    have HR := Lib.hid hR
    clear hR hMQ
    go_enter Try.func15, Try.ntmps15
    go_wp2_with (go_at_call 31; refine (HST.out _).mono ?_; rintro e A ⟨v1, rfl, ho, hg⟩; obtain ⟨q1, c1, rfl⟩ := ownE_len ho; obtain ⟨p0, p1, f1, p2, f2, lt2, hgw⟩ := ck_pre hrl hll hg; have HO := Lib.hid (ho.base (show w.heap.size ≤ _ by simp; omega)); have HG := Lib.hid hgw; clear ho hg hgw; rw [HM.out] at HO ⊢)
    refine bodyPost_ret (v := chkV none) (results_wide_bool none rfl _ rfl rfl (by rw [wd_none]; simp [go_sem, f2, lt2])) rfl ⟨by rw [HR.out], Grew.setRow_new HG.out _ _ (by omega)⟩
  · subst hMQ
    have hn1 : ((M : Int) == (M : Int)) = true := by simp
    have hll2 : L.length = path.length := by rw [HM.out, HQ.out]
    have HLL := Lib.hid hll2
    have hR : R = (climbK L path leaf M).bind fun p => if Tot.eq p.1 root = true then some p.2 else none := by
      rw [HCO.out, if_pos hll2, ← HM.out, climbK_all L path leaf hll2]
    have HR := Lib.hid hR
    have hcn := fun k => climbK_none L path leaf hll2 k
    have HCN := Lib.hid hcn
    clear hR hcn hll2 HCO
    go_enter Try.func15, Try.ntmps15
    go_wp2_with (go_at_call 31; refine (HST.out _).mono ?_; rintro e A ⟨v1, rfl, ho, hg⟩; obtain ⟨q1, c1, rfl⟩ := ownE_len ho; obtain ⟨p0, p1, f1, p2, f2, lt2, hgw⟩ := ck_pre hrl hll hg; have HO := Lib.hid (ho.base (show w.heap.size ≤ _ by simp; omega)); have HG := Lib.hid hgw; clear ho hg hgw; rw [HM.out] at HO ⊢)
    have hck : CkS w root A.heap.size (.slice q1 M c1) L (A.alloc (.cells (wv 0) 27)) leaf Wd.zero := by
      have hrn := HRN.out
      have hln := HLN.out
      exact ⟨by rw [Grew.rowAt (show Grew A _ from (by repeat (first | with_reducible exact Grew.refl _ | with_reducible apply Grew.alloc | with_reducible apply Grew.grow | with_reducible apply Grew.drew | with_reducible apply Grew.drewN))) _ (by omega), hrn]; exact p0, by rw [Grew.rowAt (show Grew A _ from (by repeat (first | with_reducible exact Grew.refl _ | with_reducible apply Grew.alloc | with_reducible apply Grew.grow | with_reducible apply Grew.drew | with_reducible apply Grew.drewN))) _ (by omega), hln]; exact p1, by rw [Grew.rowFree (show Grew A _ from (by repeat (first | with_reducible exact Grew.refl _ | with_reducible apply Grew.alloc | with_reducible apply Grew.grow | with_reducible apply Grew.drew | with_reducible apply Grew.drewN))) _ (by omega)]; exact f1,
        by rw [Grew.rowAt (show Grew A _ from (by repeat (first | with_reducible exact Grew.refl _ | with_reducible apply Grew.alloc | with_reducible apply Grew.grow | with_reducible apply Grew.drew | with_reducible apply Grew.drewN))) _ (by omega)]; exact p2, by rw [Grew.rowFree (show Grew A _ from (by repeat (first | with_reducible exact Grew.refl _ | with_reducible apply Grew.alloc | with_reducible apply Grew.grow | with_reducible apply Grew.drew | with_reducible apply Grew.drewN))) _ (by omega)]; exact f2, by simp [go_sem]; rfl, by simp [go_sem], lt2, by simp, HO.out.grew (by repeat (first | with_reducible exact Grew.refl _ | with_reducible apply Grew.alloc | with_reducible apply Grew.grow | with_reducible apply Grew.drew | with_reducible apply Grew.drewN)), HG.out.trans (by repeat (first | with_reducible exact Grew.refl _ | with_reducible apply Grew.alloc | with_reducible apply Grew.grow | with_reducible apply Grew.drew | with_reducible apply Grew.drewN))⟩
    have HCK := Lib.hid hck
    obtain ⟨g, hgA⟩ : ∃ g, A.heap.size = g := ⟨_, rfl⟩
    rw [hgA] at HCK ⊢
    clear hck p0 p1 f1 p2 f2 lt2 hgA HO HG HST
    go_loopw [53] (fun n wr => ∃ (k : Nat) (x : Tot) (a : Wd), k ≤ M ∧ n = .int .i64 k ∧ climbK L path leaf k = some (x, a) ∧ CkS w root g (.slice q1 M c1) L wr x a) (fun n _ => M - (intOf n).toNat)
    case atStart => exact ⟨0, leaf, Wd.zero, by omega, rfl, climbK_0 _ _ _, HCK.out⟩
    case round =>
      obtain ⟨k, x, a, hk, rfl, hcl, hck⟩ := hrel
      have HCK2 := Lib.hid hck
      have HCL := Lib.hid hcl
      obtain ⟨p0, p1, f1, p2, f2, pg, fg, lg, hg, -, -⟩ := hck
      have hxl := x.h.len
      clear HCK hcl
      by_cases hn : k < M
      · have hlt : (k : Int) < (M : Int) := by omega
        obtain ⟨s, hs⟩ : ∃ s, L[k]? = some s := ⟨_, List.getElem?_eq_getElem (by rw [HM.out]; exact hn)⟩
        obtain ⟨y, hy⟩ : ∃ y, path[k]? = some y := ⟨_, List.getElem?_eq_getElem (by rw [HQ.out]; exact hn)⟩
        have hstep := climbK_step L path leaf k s y HLL.out hs hy
        rw [HCL.out] at hstep
        have hstep2 : climbK L path leaf (k + 1) = climb1 s y (x, a) := hstep
        have HSTEP := Lib.hid hstep2
        have hso := OwnE.shows Stp.cs_len HCK2.out.ow
        rcases hso with ⟨gb, go, gc, he, hgc, hgb, hgat⟩ | ⟨_, _, he, hnil⟩
        case inr => have := HM.out; rw [hnil] at this; simp at this; omega
        simp only [Value.slice.injEq] at he
        obtain ⟨rfl, -, rfl⟩ := he
        have hld := load_stepm (hgat k s hs)
        have hvv := HV.out
        rw [← HQ.out] at hvv
        obtain ⟨b, o, rfl, _, hcc, hb, hat⟩ := showsT_some hvv (by rw [HQ.out]; omega)
        have hat2 : ∀ W, Grew w W → (rowLoad 29 (.pointer (some ⟨b, o + k * 37, none⟩))).run Try.prog W = .ok (.value y.v) W := fun W g => load_totm (rangeAt_grew (hat k y hy) g)
        have hld2 := hat2 (wr.alloc (.cells (st s.o s.n s.l) 58)) (HCK2.out.gr.trans (by repeat (first | with_reducible exact Grew.refl _ | with_reducible apply Grew.alloc | with_reducible apply Grew.grow | with_reducible apply Grew.drew | with_reducible apply Grew.drewN)))
        unfold Tot.v at hld2
        have hyl := y.h.len
        have hadd := fun W => wadd_w x.w y.w W
        have HADD := Lib.hid hadd
        obtain ⟨sn, hsn⟩ : ∃ sn, s.n = sn := ⟨_, rfl⟩
        obtain ⟨so, hso⟩ : ∃ so, s.o = so := ⟨_, rfl⟩
        obtain ⟨sl, hsl⟩ : ∃ sl, s.l = sl := ⟨_, rfl⟩
        have HSN := Lib.hid (And.intro hsn hsl)
        simp only [hsn, hso, hsl] at hld hld2
        have kb : (k : Int) ≤ 64 := by omega
        have HK := Lib.hid hn
        have hbw : b < wr.heap.size := Nat.lt_of_lt_of_le hb HCK2.out.gr.size
        have l0 : w.heap.size < wr.heap.size := by omega
        have l1 : w.heap.size + 1 < wr.heap.size := by omega
        have l2 : w.heap.size + 1 + 1 < wr.heap.size := by omega
        clear hs hy hstep hstep2 hgat hgc hat hat2 hcc hvv hadd hsn hso hsl hn hb
        by_cases hcon : x.w.addOk y.w = true ∧ y.n = (sn : Int)
        · obtain ⟨hok, hyn⟩ := hcon
          have q1 : decide (y.n = (sn : Int)) = true := decide_eq_true hyn
          have q2 : (y.n == (sn : Int)) = true := by simpa using hyn
          have q3 : (y.n != (sn : Int)) = false := by simpa using hyn
          have hnx : climbK L path leaf (k + 1) = if sl = true then some (Tot.join x y, a) else some (Tot.join y x, a.add y.w) := by
            rw [HSTEP.out]
            unfold climb1
            rw [if_pos ⟨hok, by rw [HSN.out.1]; exact hyn⟩, HSN.out.2]
          have HNX := Lib.hid hnx
          have hal := a.lt
          clear hnx hyn
          cases sl
          · have jw := fun W => join_w y x W
            have hj := (Tot.join y x).h.len
            unfold Tot.v at jw
            have JW := Lib.hid jw
            have hadd2 := fun W => wadd_w a y.w W
            have HADD2 := Lib.hid hadd2
            clear jw hadd2
            go_wp2_with (first | (go_at_call 24; refine (HADD.out _).mono ?_; rintro e w1 ⟨rfl, hg1⟩; obtain ⟨hk1, m1, m2, m3, m4, z1, z2⟩ := ck_mid HCK2.out hg1; have HK1 := Lib.hid hk1; obtain ⟨p0', p1', f1', p2', f2', pg', fg', -, hgl', -, -⟩ := hk1; have l3 := Nat.lt_trans l1 z2; have l4 := Nat.lt_trans l0 z2; have l5 := Nat.lt_trans l2 z2; clear hg1 hld hld2 p0 p1 f1 p2 f2 pg fg hg) | (go_at_call 20; refine stop_of ?_))
            unfold Stop
            refine (JW.out _).mono ?_
            rintro e w2 ⟨rfl, hg2⟩
            have g12 : Grew w1 w2 := (show Grew w1 _ from (by repeat (first | with_reducible exact Grew.refl _ | with_reducible apply Grew.alloc | with_reducible apply Grew.grow | with_reducible apply Grew.drew | with_reducible apply Grew.drewN))).trans hg2
            have HK2 := Lib.hid (HK1.out.grew g12)
            have n2 : w2.rowAt (wr.heap.size + 1) = ta y.h.l y.w.n y.n := by rw [Grew.rowAt g12 _ z1]; exact m1
            obtain ⟨x1, x2, x3⟩ := ck_set HK2.out (wr.heap.size + 1) (Nat.lt_succ_of_lt l1)
            have x4 : ∀ C, (w2.setRow (w.heap.size + 1) C).rowAt (wr.heap.size + 1) = ta y.h.l y.w.n y.n := fun C => (x3 C).trans n2
            have f5 := HK2.out.f1
            have s5 : (w2.rowAt (w.heap.size + 1)).size = 37 := by rw [HK2.out.p1]; exact ta_size _ _ _ hxl
            have k2 : wr.heap.size + 1 < w2.heap.size := Nat.lt_of_lt_of_le z1 g12.size
            have k3 : g < w2.heap.size := HK2.out.hg
            clear hg2 g12 m1 m2 m3 m4 x3 n2 p0' p1' f1' p2' f2' pg' fg' hgl' z1 z2 l3 l4 l5 HK1
            go_wp2_with (go_at_call 24; refine (HADD2.out _).mono ?_; rintro e w3 ⟨rfl, hg3⟩; have HK3 := Lib.hid ((HK2.out.setX (y.join x)).grew hg3); have f6 := HK3.out.fg; have s6 : (w3.rowAt g).size = 4 := (by rw [HK3.out.pg]; rfl); clear hg3 x1 x2 x4 f5 s5 k2 k3 HK2)
            refine ⟨⟨k + 1, y.join x, a.add y.w, by have := HK.out; omega, by go_num, ?_, HK3.out.setA _⟩, by have := HK.out; simp only [intOf]; omega⟩
            rw [HNX.out]
            rfl
          · have jw := fun W => join_w x y W
            have hj := (Tot.join x y).h.len
            unfold Tot.v at jw
            have JW := Lib.hid jw
            clear jw
            go_wp2_with (first | (go_at_call 24; refine (HADD.out _).mono ?_; rintro e w1 ⟨rfl, hg1⟩; obtain ⟨hk1, m1, m2, m3, m4, z1, z2⟩ := ck_mid HCK2.out hg1; have HK1 := Lib.hid hk1; obtain ⟨p0', p1', f1', p2', f2', pg', fg', -, hgl', -, -⟩ := hk1; have l3 := Nat.lt_trans l1 z2; have l4 := Nat.lt_trans l0 z2; have l5 := Nat.lt_trans l2 z2; clear hg1 hld hld2 p0 p1 f1 p2 f2 pg fg hg) | (go_at_call 20; refine stop_of ?_))
            unfold Stop
            refine (JW.out _).mono ?_
            rintro e w2 ⟨rfl, hg2⟩
            have g12 : Grew w1 w2 := (show Grew w1 _ from (by repeat (first | with_reducible exact Grew.refl _ | with_reducible apply Grew.alloc | with_reducible apply Grew.grow | with_reducible apply Grew.drew | with_reducible apply Grew.drewN))).trans hg2
            have HK2 := Lib.hid (HK1.out.grew g12)
            have n2 : w2.rowAt (wr.heap.size + 1) = ta y.h.l y.w.n y.n := by rw [Grew.rowAt g12 _ z1]; exact m1
            have f5 := HK2.out.f1
            have s5 : (w2.rowAt (w.heap.size + 1)).size = 37 := by rw [HK2.out.p1]; exact ta_size _ _ _ hxl
            have k2 : wr.heap.size + 1 < w2.heap.size := Nat.lt_of_lt_of_le z1 g12.size
            have k3 : g < w2.heap.size := HK2.out.hg
            clear hg2 g12 m1 m2 m3 m4 n2 p0' p1' f1' p2' f2' pg' fg' hgl' z1 z2 l3 l4 l5 HK1
            go_wp2
            refine ⟨⟨k + 1, x.join y, a, by have := HK.out; omega, by go_num, ?_, HK2.out.setX _⟩, by have := HK.out; simp only [intOf]; omega⟩
            rw [HNX.out]
            rfl
        · have hnx : climbK L path leaf (k + 1) = none := by
            rw [HSTEP.out]
            unfold climb1
            rw [if_neg (by rw [HSN.out.1]; exact hcon)]
          have hR : R = none := by
            rw [HR.out, HCN.out (k + 1) hnx M HK.out (by rw [HM.out]; exact Nat.le_refl _)]
            rfl
          have HR2 := Lib.hid hR
          clear hnx hR
          cases hok : x.w.addOk y.w
          · clear hcon
            go_wp2_with (go_at_call 24; refine (HADD.out _).mono ?_; rintro e w1 ⟨rfl, hg1⟩; obtain ⟨hk1, m1, m2, m3, m4, z1, z2⟩ := ck_mid HCK2.out hg1; have HK1 := Lib.hid hk1; obtain ⟨p0', p1', f1', p2', f2', pg', fg', -, hgl', -, -⟩ := hk1; have l3 := Nat.lt_trans l1 z2; have l4 := Nat.lt_trans l0 z2; have l5 := Nat.lt_trans l2 z2; clear hg1 hld hld2 p0 p1 f1 p2 f2 pg fg hg)
            refine bodyPost_ret (v := chkV none) (results_wide_bool none rfl _ rfl rfl (by rw [wd_none]; simp [go_sem, f2', l5])) rfl ⟨by rw [HR2.out], (Grew.setRow_new HK1.out.gr _ _ (Nat.le_succ_of_le (Nat.le_succ _))).alloc _⟩
          · have hyn : ¬ y.n = (sn : Int) := fun h => hcon ⟨hok, h⟩
            have q1 : decide (y.n = (sn : Int)) = false := decide_eq_false hyn
            have q2 : (y.n == (sn : Int)) = false := by simpa using hyn
            have q3 : (y.n != (sn : Int)) = true := by simpa using hyn
            clear hcon hyn
            go_wp2_with (go_at_call 24; refine (HADD.out _).mono ?_; rintro e w1 ⟨rfl, hg1⟩; obtain ⟨hk1, m1, m2, m3, m4, z1, z2⟩ := ck_mid HCK2.out hg1; have HK1 := Lib.hid hk1; obtain ⟨p0', p1', f1', p2', f2', pg', fg', -, hgl', -, -⟩ := hk1; have l3 := Nat.lt_trans l1 z2; have l4 := Nat.lt_trans l0 z2; have l5 := Nat.lt_trans l2 z2; clear hg1 hld hld2 p0 p1 f1 p2 f2 pg fg hg)
            refine bodyPost_ret (v := chkV none) (results_wide_bool none rfl _ rfl rfl (by rw [wd_none]; simp [go_sem, f2', l5])) rfl ⟨by rw [HR2.out], (Grew.setRow_new HK1.out.gr _ _ (Nat.le_succ_of_le (Nat.le_succ _))).alloc _⟩
      · obtain rfl : k = M := by omega
        have hge : ¬ ((k : Int) < (k : Int)) := by omega
        have l0 : w.heap.size < wr.heap.size := by omega
        have l1 : w.heap.size + 1 < wr.heap.size := by omega
        have l2 : w.heap.size + 1 + 1 < wr.heap.size := by omega
        have hR2 : R = if Tot.eq x root = true then some a else none := by
          rw [HR.out, HCL.out]; rfl
        have HR2 := Lib.hid hR2
        clear hk hn hR2
        cases hE : Tot.eq x root
        · go_wp2
          refine bodyPost_ret (v := chkV none) (results_wide_bool none rfl _ rfl rfl (by rw [wd_none]; simp [go_sem, f2, l2])) rfl ⟨by rw [HR2.out, hE]; rfl, Grew.setRow_new HCK2.out.gr _ _ (Nat.le_succ_of_le (Nat.le_succ _))⟩
        · go_wp2
          refine bodyPost_ret (v := chkV (some a)) (results_wide_bool (some a) rfl _ rfl rfl (by rw [show ((some a).getD Wd.zero).n = a.n from rfl]; simp [go_sem, f2, l2])) rfl ⟨by rw [HR2.out, hE]; rfl, Grew.setRow_new HCK2.out.gr _ _ (Nat.le_succ_of_le (Nat.le_succ _))⟩
end Go.Proofs.Ytnhcamklammcdaa
/- The chapter's example: what comes of three leaves. -/
namespace Go.Proofs.Ytnhcamklammcdaa
set_option linter.unusedVariables false
set_option linter.unusedSimpArgs false
open Go.RowKit
set_option maxRecDepth 100000
theorem id1_lt (c : Nat) (h : c < 256) : ∀ x ∈ id1 c, x < 256 := by
  intro x hx
  simp only [id1, List.mem_cons, List.mem_replicate] at hx
  rcases hx with rfl | ⟨_, rfl⟩ <;> omega
def Idb.one (c : Nat) (h : c < 256) : Idb := ⟨id1 c, id1_len c, id1_lt c h⟩
noncomputable def t1 : Tot := Tot.leaf (Idb.one 1 (by decide)) (Wd.of 2)
noncomputable def t2 : Tot := Tot.leaf (Idb.one 2 (by decide)) (Wd.of 2)
noncomputable def t3 : Tot := Tot.leaf (Idb.one 3 (by decide)) (Wd.of 2)
noncomputable def t12 : Tot := Tot.join t1 t2
noncomputable def t123 : Tot := Tot.join t12 t3
theorem half2 : halfN 2 = 1 := by decide +kernel
theorem half3 : halfN 3 = 2 := by decide +kernel
theorem t12_n : t12.n = 2 := by unfold t12; rw [join_n]; show wrap64 (1 + 1) = 2; unfold wrap64; omega
theorem peaks3 : peaksL [t1, t2, t3] = [t12, t3] := by
  have e1 : appT [] t1 = [t1] := by unfold appT; rw [mergeR_one _ (by simp)]; rfl
  have e2 : appT [t1] t2 = [t12] := by
    unfold appT
    rw [show ([t1] ++ [t2]).reverse = [t2, t1] from rfl, mergeR_two t2 t1 [] rfl, mergeR_one _ (by simp)]; rfl
  have e3 : appT [t12] t3 = [t12, t3] := by
    unfold appT
    rw [show ([t12] ++ [t3]).reverse = [t3, t12] from rfl, mergeR_stop t3 t12 [] (by rw [t12_n]; decide)]; rfl
  simp only [peaksL, List.foldl_cons, List.foldl_nil, e1, e2, e3]
theorem all2 (a b : Tot) : allT [a, b] = Tot.join a b := by
  rw [allT_cut [a, b] (by simp) (by simp)]
  simp only [List.length_cons, List.length_nil, Nat.zero_add, Nat.reduceAdd, half2, List.take_succ_cons, List.take_zero, List.drop_succ_cons, List.drop_zero, allT_one]
theorem all3 (a b c : Tot) : allT [a, b, c] = Tot.join (Tot.join a b) c := by
  rw [allT_cut [a, b, c] (by simp) (by simp)]
  simp only [List.length_cons, List.length_nil, Nat.zero_add, Nat.reduceAdd, half3, List.take_succ_cons, List.take_zero, List.drop_succ_cons, List.drop_zero, allT_one, all2]
theorem path3T (a b c : Tot) : pathT [a, b, c] 2 = [Tot.join a b] := by
  rw [pathT_right [a, b, c] 2 (by simp) (by simp) (by simp only [List.length_cons, List.length_nil, Nat.zero_add, Nat.reduceAdd, half3]; omega)]
  simp only [List.length_cons, List.length_nil, Nat.zero_add, Nat.reduceAdd, half3, List.take_succ_cons, List.take_zero, List.drop_succ_cons, List.drop_zero, all2]
  rw [pathT_one _ _ (by simp)]
  rfl
theorem pok3 : tpathOk [t1, t2, t3] 2 = true := by decide
theorem pof3 : tpathOf [t1, t2, t3] 2 = [t12] := by unfold tpathOf; rw [if_pos pok3]; exact path3T _ _ _
theorem ones3 : Ones [t1, t2, t3] := by
  intro x hx
  simp only [List.mem_cons, List.not_mem_nil, or_false] at hx
  rcases hx with rfl | rfl | rfl <;> rfl
theorem leaf_wn (h : Idb) (w : Wd) : (Tot.leaf h w).w = w := rfl
theorem wsum3 : wsum [t1, t2, t3] = 6 := by
  simp only [wsum, List.map_cons, List.map_nil, List.sum_cons, List.sum_nil, t1, t2, t3, leaf_wn, Wd.of_2, Nat.reduceAdd]
theorem wsum2 : wsum [t1, t2] = 4 := by
  simp only [wsum, List.map_cons, List.map_nil, List.sum_cons, List.sum_nil, t1, t2, leaf_wn, Wd.of_2, Nat.reduceAdd]
theorem root3T : peakL [t12, t3] = t123 := by
  rw [← peaks3, root_peaks _ (by simp) (by simp) ones3, all3]; rfl
theorem chk3T : chkO t123 2 t3 [t12] = some (Wd.of 4) := by
  have h := path_chk [t1, t2, t3] 2 (by simp) (by simp) ones3 (by rw [wsum3]; exact small_b256 (by decide)) t3 rfl
  rw [all3, path3T] at h
  rw [show [t1, t2, t3].take 2 = [t1, t2] from rfl, wsum2] at h
  exact h
theorem t123_w : t123.w.n = 6 := by
  have h := (allT_nw 3 [t1, t2, t3] (by simp) (by simp) (by simp) ones3).2
  rw [all3, wsum3, Nat.mod_eq_of_lt (small_b256 (by decide))] at h
  exact h
theorem t12_h : ieq t12.h.l id0 = false := by
  have e : joinL t1 t2 = 3 :: (((id1 1) ++ (bytesN 2 ++ putL 1 4)) ++ ((id1 2) ++ (bytesN 2 ++ putL 1 4))) := by
    unfold joinL Tot.text
    have h1 : ∀ h, (Tot.leaf h (Wd.of 2)).w.id.l = bytesN 2 := fun h => by rw [leaf_wn]; show bytesN (Wd.of 2).n = _; rw [Wd.of_2]
    have h2 : ∀ h, num64 (Tot.leaf h (Wd.of 2)).n = 1 := fun h => by show num64 1 = 1; unfold num64; omega
    unfold t1 t2
    rw [h1, h1, h2, h2]
    rfl
  show ieq (Idb.sum (joinL t1 t2)).l id0 = false
  rw [e]
  decide +kernel
end Go.Proofs.Ytnhcamklammcdaa
/- The chapter's example holds. -/
namespace Go.Proofs.Ytnhcamklammcdaa
set_option linter.unusedVariables false
set_option linter.unusedSimpArgs false
open Go.RowKit
set_option maxRecDepth 100000
def tslBuild3 (x y z : Value) : Sem Next := do let v ← Instr.buildSlice 22 3 #[(0, x), (1, y), (2, z)]; pure (.value v)
def wdBuild1 (x : Value) : Sem Next := do let v ← Instr.build 27 #[(0, x)]; pure (.value v)
section
variable (ρ : Operand → Value) (d : Option Tmp) (x y z : Operand) (t : TypeId) (p : String) (a : Array Edge) (g : Option (Nat × Bool))
@[go_sem ↓] theorem ex_tslBuild3 : execOp ρ ⟨d, .buildSlice 22 3 #[(0, x), (1, y), (2, z)], t, p, a, g⟩ = tslBuild3 (ρ x) (ρ y) (ρ z) := by simp [execOp, tslBuild3]
@[go_sem ↓] theorem ex_wdBuild1 : execOp ρ ⟨d, .build 27 #[(0, x)], t, p, a, g⟩ = wdBuild1 (ρ x) := by simp [execOp, wdBuild1]
end
@[go_sem] theorem run_wdBuild2 (w : World) : (wdBuild1 (.int .u64 2)).run Try.prog w = .ok (.value (.agg (wv 2))) w := by kernel_rfl
@[go_sem] theorem run_wdBuild4 (w : World) : (wdBuild1 (.int .u64 4)).run Try.prog w = .ok (.value (.agg (wv 4))) w := by kernel_rfl
@[go_sem] theorem run_wdBuild6 (w : World) : (wdBuild1 (.int .u64 6)).run Try.prog w = .ok (.value (.agg (wv 6))) w := by kernel_rfl
@[go_sem] theorem run_tslBuild3 (a b c : Tot) (w : World) : (tslBuild3 (.agg (ta a.h.l a.w.n a.n)) (.agg (ta b.h.l b.w.n b.n)) (.agg (ta c.h.l c.w.n c.n))).run Try.prog w = .ok (.value (.slice (some ⟨w.heap.size, 0, none⟩) 3 3)) (w.alloc (.cells (a.cs ++ (b.cs ++ c.cs)).toArray 29)) := by
  obtain ⟨i, hi, hz, hs, _⟩ := info_t
  unfold tslBuild3
  rw [Sem.run_bind, run_buildSlice3 under_ts hi hz hs (ta_size _ _ _ a.h.len) (ta_size _ _ _ b.h.len) (ta_size _ _ _ c.h.len) (by omega) (by omega)]
  rfl
theorem made3T (w : World) (δ : Junk) (a b c : Tot) : ShowsT ((w.grow δ).alloc (.cells (a.cs ++ (b.cs ++ c.cs)).toArray 29)) (.slice (some ⟨w.heap.size + δ.n, 0, none⟩) 3 3) [a, b, c] := by
  have h := (OwnE.made Tot.cs_len (w.grow δ) (w.grow δ).heap.size 29 [a, b, c] (Nat.le_refl _) (by simp [maxLen])).shows Tot.cs_len
  have e1 : ([a, b, c].flatMap Tot.cs) = a.cs ++ (b.cs ++ c.cs) := by simp
  rw [e1, size_grow] at h
  exact h
@[go_sem] theorem ta_extH (h : List Nat) (w : Nat) (n : Int) (hh : h.length = 32) : (ta h w n).extract 0 32 = iv h := by
  refine arr_ext ?_
  rw [Array.toList_extract]
  show ((tl h w n).drop 0).take 32 = _
  rw [List.drop_zero, tl_h h w n hh]; rfl
@[go_sem] theorem ta_extW (h : List Nat) (w : Nat) (n : Int) (hh : h.length = 32) : (ta h w n).extract 32 36 = wv w := by
  refine arr_ext ?_
  rw [Array.toList_extract]
  exact tl_w h w n hh
def totField (i : Nat) (v : Value) : Sem Next := do let x ← Instr.field 29 v i; pure (.value x)
section
variable (ρ : Operand → Value) (d : Option Tmp) (x : Operand) (i : Nat) (t : TypeId) (p : String) (a : Array Edge) (g : Option (Nat × Bool))
@[go_sem ↓] theorem ex_totField : execOp ρ ⟨d, .field 29 x i, t, p, a, g⟩ = totField i (ρ x) := rfl
end
theorem field_at (j : Nat) (y : String × TypeId × Nat) (hy : [("H", 24, 0), ("W", 27, 32), ("N", 3, 36)][j]? = some y) : ∃ f, (Try.prog.fieldsOf 29)[j]? = some f ∧ f.type = y.2.1 ∧ f.offset = y.2.2 := by
  have h := fields_tot
  rw [← h, List.getElem?_map] at hy
  cases hf : (Try.prog.fieldsOf 29).toList[j]? with
  | none => rw [hf] at hy; simp at hy
  | some f =>
    rw [hf, Option.map_some, Option.some.injEq] at hy
    exact ⟨f, by rwa [← Array.getElem?_toList], by rw [← hy], by rw [← hy]⟩
@[go_sem] theorem run_totFieldW (h : List Nat) (x : Nat) (n : Int) (hh : h.length = 32) (w : World) : (totField 1 (.agg (ta h x n))).run Try.prog w = .ok (.value (.agg (wv x))) w := by
  obtain ⟨f, hf, h1, h2⟩ := field_at 1 _ rfl
  have hp := part_wide h x n hh w
  unfold totField Instr.field
  simp only [Sem.run_bind, run_underlying under_tot w, Result.andThen_ok, hf, asAgg, Sem.run_pure, h1, h2, hp]
@[go_sem] theorem run_totFieldH (h : List Nat) (x : Nat) (n : Int) (hh : h.length = 32) (w : World) : (totField 0 (.agg (ta h x n))).run Try.prog w = .ok (.value (.agg (iv h))) w := by
  obtain ⟨f, hf, h1, h2⟩ := field_at 0 _ rfl
  have hp := part_id h x n hh w
  unfold totField Instr.field
  simp only [Sem.run_bind, run_underlying under_tot w, Result.andThen_ok, hf, asAgg, Sem.run_pure, h1, h2, hp]
@[go_sem] theorem run_totFieldN (h : List Nat) (x : Nat) (n : Int) (hh : h.length = 32) (w : World) : (totField 2 (.agg (ta h x n))).run Try.prog w = .ok (.value (.int .i64 n)) w := by
  obtain ⟨f, hf, h1, h2⟩ := field_at 2 _ rfl
  have hp := part_n h x n hh w
  unfold totField Instr.field
  simp only [Sem.run_bind, run_underlying under_tot w, Result.andThen_ok, hf, asAgg, Sem.run_pure, h1, h2, hp]
theorem leaf_c (c : Nat) (h : c < 256) (W : World) : Calls Try.prog 22 #[.agg (iv (id1 c)), .agg (wv 2)] W fun e w' => e = .returned (Tot.leaf (Idb.one c h) (Wd.of 2)).v ∧ Grew W w' := by
  have := leaf_w (Idb.one c h) (Wd.of 2) W
  rw [Wd.of_2] at this
  exact this
theorem showsE_keeps {α : Type} {k : Nat} {f : α → List Value} {Z W : World} {v : Value} {ls : List α} (h : KeepsX Z (.slice none 0 0) W) (hs : ShowsE k f Z v ls) : ShowsE k f W v ls := by
  rcases hs with ⟨b, o, c, rfl, hc, hb, hat⟩ | hs
  · exact .inl ⟨b, o, c, rfl, hc, Nat.lt_of_lt_of_le hb h.1, fun j x hj i u hi => h.cell (hat j x hj i u hi) (by simp [Value.ownBlock])⟩
  · exact .inr hs
set_option maxHeartbeats 6400000 in
theorem awake_w (w : World) : Calls Try.prog 9 #[] w fun e w' => e = .returned (.bool true) ∧ Grew w w' := by
  have c1 := fun W => leaf_c 1 (by decide) W
  have c2 := fun W => leaf_c 2 (by decide) W
  have c3 := fun W => leaf_c 3 (by decide) W
  rw [show Tot.leaf (Idb.one 1 (by decide)) (Wd.of 2) = t1 from rfl] at c1
  rw [show Tot.leaf (Idb.one 2 (by decide)) (Wd.of 2) = t2 from rfl] at c2
  rw [show Tot.leaf (Idb.one 3 (by decide)) (Wd.of 2) = t3 from rfl] at c3
  have hp3 := peaks3
  have hok := pok3
  have hof := pof3
  have hrt := root3T
  have hck := chk3T
  have hw := t123_w
  have hh := t12_h
  have hn := t12_n
  have hn3 : t3.n = 1 := rfl
  have hj : Tot.join t1 t2 = t12 := rfl
  obtain ⟨A, hA⟩ : ∃ T, t1 = T := ⟨_, rfl⟩
  obtain ⟨B, hB⟩ : ∃ T, t2 = T := ⟨_, rfl⟩
  obtain ⟨C, hC⟩ : ∃ T, t3 = T := ⟨_, rfl⟩
  obtain ⟨D, hD⟩ : ∃ T, t12 = T := ⟨_, rfl⟩
  obtain ⟨R, hR⟩ : ∃ T, t123 = T := ⟨_, rfl⟩
  rw [hA] at c1 hp3 hok hof hj
  rw [hB] at c2 hp3 hok hof hj
  rw [hC] at c3 hp3 hok hof hn3 hrt hck
  rw [hD] at hp3 hof hrt hck hh hn hj
  rw [hR] at hrt hck hw
  have hal := A.h.len
  have hbl := B.h.len
  have hcl := C.h.len
  have hdl := D.h.len
  have hrl := R.h.len
  unfold Tot.v at c1 c2 c3
  have C1 := Lib.hid c1
  have C2 := Lib.hid c2
  have C3 := Lib.hid c3
  have CP := Lib.hid (fun W v (h : ShowsT W v [A, B, C]) => peaks_w [A, B, C] v W h (by simp))
  have CT := Lib.hid (fun W v (h : ShowsT W v [A, B, C]) => path_w [A, B, C] 2 v W h)
  rw [hp3] at CP
  rw [hok, hof] at CT
  have CR := Lib.hid (fun W v (h : ShowsT W v [D, C]) => root_w [D, C] v W (by simp) h)
  rw [hrt] at CR
  unfold Tot.v at CR
  have CK := Lib.hid (fun W v (h : ShowsT W v [D]) => check_w R 2 C [D] v W h (by simp))
  rw [hck] at CK
  have CJ := Lib.hid (fun W => join_w A B W)
  rw [hj] at CJ
  unfold Tot.v at CJ
  have CS := Lib.hid (fun W v (h : ShowsT W v [D, C]) => same_w [D, C] [D, C] v v W h h (by simp) (by simp))
  rw [(sameT_iff [D, C] [D, C]).2 rfl] at CS
  have w1 : weq R.w.n 6 = true := by rw [hw]; exact Wd.eq_of rfl
  have w2 : chkV (some (Wd.of 4)) = .tuple #[.agg (wv 4), .bool true] := by
    unfold chkV
    rw [show ((some (Wd.of 4)).getD Wd.zero).n = 4 from of_val (small_b256 (by decide))]
    rfl
  rw [w2] at CK
  have w3 : weq 4 4 = true := Wd.eq_of rfl
  have HN := Lib.hid (And.intro hn hn3)
  clear c1 c2 c3 hA hB hC hD hR hp3 hok hof hrt hck hj hw hn hn3 w2
  go_enter Try.func9, Try.ntmps9
  go_wp2
  refine wp_region_flow (by kernel_rfl) ?_
  intro δf
  apply wpFlow_quiets [0,1] (by decide +kernel) (by decide +kernel) (by kernel_rfl) (by intro _ _ _ d _ h; cases d <;> exact h) _
  · intro A hA δ'
    simp only [pickOps_cons, pickOps_nil, pick1_zero, pick1_succ]
    repeat (go_big_quiet_step ((fail)))
    exact wpQuiet_nil hA.out.symm
  apply wpFlow_quiets [2] (by decide +kernel) (by decide +kernel) (by kernel_rfl) (by intro _ _ _ d _ h; cases d <;> exact h) _
  · intro A hA δ'
    simp only [pickOps_cons, pickOps_nil, pick1_zero, pick1_succ]
    repeat (go_big_quiet_step ((go_at_call 22; (with_reducible first | exact Calls.pure_of_g3 (C1.out _) | exact Calls.pure_of_g4 (C1.out _) | exact Calls.pure_of_g (C1.out _) | exact Calls.pure_of_g5 (C1.out _)))))
    exact wpQuiet_nil hA.out.symm
  apply wpFlow_quiets [3,4] (by decide +kernel) (by decide +kernel) (by kernel_rfl) (by intro _ _ _ d _ h; cases d <;> exact h) _
  · intro A hA δ'
    simp only [pickOps_cons, pickOps_nil, pick1_zero, pick1_succ]
    repeat (go_big_quiet_step ((fail)))
    exact wpQuiet_nil hA.out.symm
  apply wpFlow_quiets [5] (by decide +kernel) (by decide +kernel) (by kernel_rfl) (by intro _ _ _ d _ h; cases d <;> exact h) _
  · intro A hA δ'
    simp only [pickOps_cons, pickOps_nil, pick1_zero, pick1_succ]
    repeat (go_big_quiet_step ((go_at_call 22; (with_reducible first | exact Calls.pure_of_g3 (C2.out _) | exact Calls.pure_of_g4 (C2.out _) | exact Calls.pure_of_g (C2.out _) | exact Calls.pure_of_g5 (C2.out _)))))
    exact wpQuiet_nil hA.out.symm
  apply wpFlow_quiets [6,7] (by decide +kernel) (by decide +kernel) (by kernel_rfl) (by intro _ _ _ d _ h; cases d <;> exact h) _
  · intro A hA δ'
    simp only [pickOps_cons, pickOps_nil, pick1_zero, pick1_succ]
    repeat (go_big_quiet_step ((fail)))
    exact wpQuiet_nil hA.out.symm
  apply wpFlow_quiets [8] (by decide +kernel) (by decide +kernel) (by kernel_rfl) (by intro _ _ _ d _ h; cases d <;> exact h) _
  · intro A hA δ'
    simp only [pickOps_cons, pickOps_nil, pick1_zero, pick1_succ]
    repeat (go_big_quiet_step ((go_at_call 22; (with_reducible first | exact Calls.pure_of_g3 (C3.out _) | exact Calls.pure_of_g4 (C3.out _) | exact Calls.pure_of_g (C3.out _) | exact Calls.pure_of_g5 (C3.out _)))))
    exact wpQuiet_nil hA.out.symm
  refine flow_abs ?_
  intro Y0 hY
  have g0 : Grew w Y0 := by rw [hY]; exact (by repeat (first | with_reducible exact Grew.refl _ | with_reducible apply Grew.alloc | with_reducible apply Grew.grow | with_reducible apply Grew.drew | with_reducible apply Grew.drewN))
  have G0 := Lib.hid g0
  clear hY g0 C1 C2 C3
  refine wpFlow_one 9 (by decide +kernel) (by kernel_rfl) (by kernel_rfl) ?_
  refine wpFlowS_intro ?_
  simp only [pickOps_cons, pickOps_nil, pick1_zero, pick1_succ]
  intro δf
  go_wp2_with (fail)
  refine ⟨(by first | assumption | (simp only [grow_grow, Array.append_assoc]; assumption) | exact Grew.refl _ | (simp only [grow_grow, Array.append_assoc]; exact (by repeat (first | with_reducible exact Grew.refl _ | with_reducible apply Grew.alloc | with_reducible apply Grew.grow | with_reducible apply Grew.drew | with_reducible apply Grew.drewN))) | exact (by repeat (first | with_reducible exact Grew.refl _ | with_reducible apply Grew.alloc | with_reducible apply Grew.grow | with_reducible apply Grew.drew | with_reducible apply Grew.drewN))), ?_⟩
  refine flow_abs ?_
  intro Y1 hY
  have sh : ShowsT Y1 (.slice (some ⟨Y0.heap.size + δf.n, 0, none⟩) 3 3) [A, B, C] := by rw [hY]; exact made3T Y0 δf A B C
  have g1 : Grew Y0 Y1 := by rw [hY]; exact (by repeat (first | with_reducible exact Grew.refl _ | with_reducible apply Grew.alloc | with_reducible apply Grew.grow | with_reducible apply Grew.drew | with_reducible apply Grew.drewN))
  have G1 := Lib.hid (G0.out.trans g1)
  have SH := Lib.hid sh
  obtain ⟨b3, hb3⟩ : ∃ b3, Y0.heap.size + δf.n = b3 := ⟨_, rfl⟩
  rw [hb3] at SH ⊢
  clear hY g1 sh hb3 G0
  apply wpFlow_quiets [10] (by decide +kernel) (by decide +kernel) (by kernel_rfl) (by intro _ _ _ d _ h; cases d <;> exact h) _
  · intro A hA δ'
    simp only [pickOps_cons, pickOps_nil, pick1_zero, pick1_succ]
    repeat (go_big_quiet_step ((fail)))
    exact wpQuiet_nil hA.out.symm
  refine wpFlow_end (by decide +kernel) (by kernel_rfl) ?_
  intro δf
  go_wp2_with (go_at_call 26; refine stop_of ?_)
  unfold Stop
  refine Calls_abs ?_
  intro X hX
  have gX : Grew Y1 X := by rw [hX]; exact (by repeat (first | with_reducible exact Grew.refl _ | with_reducible apply Grew.alloc | with_reducible apply Grew.grow | with_reducible apply Grew.drew | with_reducible apply Grew.drewN))
  refine (CP.out X _ (SH.out.grew gX)).mono ?_
  rintro e W1 ⟨v1, rfl, ho, hg⟩
  have S1 := Lib.hid (SH.out.grew (gX.trans hg))
  have O1 := Lib.hid (OwnE.shows Tot.cs_len ho)
  have GG := Lib.hid (G1.out.trans (gX.trans hg))
  obtain ⟨p1, k1, rfl⟩ := ownE_len ho
  clear hX gX ho hg SH G1 CP
  simp only [List.length_cons, List.length_nil, Nat.zero_add, Nat.reduceAdd] at O1 ⊢
  go_wp2_with (go_at_call 13; refine stop_of ?_)
  unfold Stop
  refine (CT.out _ _ S1.out).mono ?_
  rintro e W2 ⟨v2, rfl, ho, hg⟩
  have S2 := Lib.hid (S1.out.grew hg)
  have O2 := Lib.hid (O1.out.grew hg)
  have T2 := Lib.hid (OwnE.shows Tot.cs_len ho)
  have GG2 := Lib.hid (GG.out.trans hg)
  obtain ⟨p2, k2, rfl⟩ := ownE_len ho
  clear ho hg S1 O1 GG CT
  simp only [List.length_cons, List.length_nil, Nat.zero_add, Nat.reduceAdd] at T2 ⊢
  go_wp2
  refine code_abs ?_
  intro Z hZ
  have gZ : Grew W2 Z := by rw [hZ]; exact (by repeat (first | with_reducible exact Grew.refl _ | with_reducible apply Grew.alloc | with_reducible apply Grew.grow | with_reducible apply Grew.drew | with_reducible apply Grew.drewN))
  have S3 := S2.out.grew gZ
  have O3 := O2.out.grew gZ
  have T3 := T2.out.grew gZ
  have HS3 := Lib.hid S3
  have HO3 := Lib.hid O3
  have HT3 := Lib.hid T3
  have GZ := Lib.hid (GG2.out.trans gZ)
  obtain ⟨pb, po, rfl, -, hpc, hpb, hpat⟩ := showsT_some O3 (by simp)
  obtain ⟨lb', lo, hle, -, hlc, hlb, hlat⟩ := showsT_some S3 (by simp)
  simp only [Option.some.injEq, Addr.mk.injEq] at hle
  obtain ⟨rfl, rfl, -⟩ := hle
  have HPA := Lib.hid hpat
  have HLA := Lib.hid hlat
  have ldc : ∀ δ, (rowLoad 29 (.pointer (some ⟨b3, 74, none⟩))).run Try.prog (Z.grow δ) = .ok (.value (.agg (ta C.h.l C.w.n C.n))) (Z.grow δ) := by
    have := hlat 2 C rfl
    rw [Nat.zero_add] at this
    exact load_totg this
  clear hZ gZ S3 O3 T3 S2 O2 T2 GG2 hpc hlc hpat hlat
  have HCG := Lib.hid (KeepsX.grew Z (.slice none 0 0))
  have HC0 := Lib.hid (KeepsX.refl Z (.slice none 0 0))
  refine wp_region_flowC (KeepsX Z (.slice none 0 0)) HCG.out HC0.out (by kernel_rfl) ?_
  intro δf
  apply wpFlowC_quiets [0] HCG.out ⟨_, HC0.out⟩ (by decide +kernel) (by decide +kernel) (by kernel_rfl) (by intro _ _ _ d _ h; cases d <;> exact h) _
  · intro A hA Y hY
    simp only [pickOps_cons, pickOps_nil, pick1_zero, pick1_succ]
    repeat (go_big_quiet_step ((fail)))
    exact wpQuiet_nil hA.out.symm
  apply wpFlowC_quiets [1] HCG.out ⟨_, HC0.out⟩ (by decide +kernel) (by decide +kernel) (by kernel_rfl) (by intro _ _ _ d _ h; cases d <;> exact h) _
  · intro A hA Y hY
    (skip)
    simp only [pickOps_cons, pickOps_nil, pick1_zero, pick1_succ]
    repeat (go_big_quiet_step ((go_at_call 18; exact Calls.pure_of (CR.out _ _ ((showsE_keeps hY HO3.out).grew (by repeat (first | with_reducible exact Grew.refl _ | with_reducible apply Grew.alloc | with_reducible apply Grew.grow | with_reducible apply Grew.drew | with_reducible apply Grew.drewN)))))))
    exact wpQuiet_nil hA.out.symm
  apply wpFlowC_quiets [2,3,4,5] HCG.out ⟨_, HC0.out⟩ (by decide +kernel) (by decide +kernel) (by kernel_rfl) (by intro _ _ _ d _ h; cases d <;> exact h) _
  · intro A hA Y hY
    (have ldq : ∀ n, (rowLoad 29 (.pointer (some ⟨b3, 74, none⟩))).run Try.prog (Y.grow n) = .ok (.value (.agg (ta C.h.l C.w.n C.n))) (Y.grow n) := fun n => (by have h9 : Z.rangeAt b3 74 C.cs := HLA.out 2 C rfl; exact load_totg (fun j u hj => hY.cell (h9 j u hj) (by simp [Value.ownBlock])) n); have hb3Y : b3 < Y.heap.size := Nat.lt_of_lt_of_le hlb hY.1)
    simp only [pickOps_cons, pickOps_nil, pick1_zero, pick1_succ]
    repeat (go_big_quiet_step ((fail)))
    exact wpQuiet_nil hA.out.symm
  apply wpFlowC_quiets [6] HCG.out ⟨_, HC0.out⟩ (by decide +kernel) (by decide +kernel) (by kernel_rfl) (by intro _ _ _ d _ h; cases d <;> exact h) _
  · intro A hA Y hY
    (skip)
    simp only [pickOps_cons, pickOps_nil, pick1_zero, pick1_succ]
    repeat (go_big_quiet_step ((go_at_call 15; exact Calls.pure_of (CK.out _ _ ((showsE_keeps hY HT3.out).grew (by repeat (first | with_reducible exact Grew.refl _ | with_reducible apply Grew.alloc | with_reducible apply Grew.grow | with_reducible apply Grew.drew | with_reducible apply Grew.drewN)))))))
    exact wpQuiet_nil hA.out.symm
  apply wpFlowC_quiets [7,8,9] HCG.out ⟨_, HC0.out⟩ (by decide +kernel) (by decide +kernel) (by kernel_rfl) (by intro _ _ _ d _ h; cases d <;> exact h) _
  · intro A hA Y hY
    simp only [pickOps_cons, pickOps_nil, pick1_zero, pick1_succ]
    repeat (go_big_quiet_step ((fail)))
    exact wpQuiet_nil hA.out.symm
  refine flowC_abs ?_
  intro V hV
  have gV : Grew Z V := by rw [hV]; exact (by repeat (first | with_reducible exact Grew.refl _ | with_reducible apply Grew.alloc | with_reducible apply Grew.grow | with_reducible apply Grew.drew | with_reducible apply Grew.drewN))
  have GV := Lib.hid gV
  have zV := gV.size
  clear hV gV ldc CK
  refine wpFlowC_one 10 (by decide +kernel) (by kernel_rfl) (by kernel_rfl) ?_
  unfold wpFlowCS
  simp only [pickOps_cons, pickOps_nil, pick1_zero, pick1_succ]
  intro δf hCf
  go_wp2_with (fail)
  refine ⟨(by first | assumption | exact HCG.out _ _ hCf (by assumption) | (refine HCG.out _ _ hCf ?_; simp only [grow_grow]; exact (by repeat (first | with_reducible exact Grew.refl _ | with_reducible apply Grew.alloc | with_reducible apply Grew.grow | with_reducible apply Grew.drew | with_reducible apply Grew.drewN))) | exact HCG.out _ _ hCf (by repeat (first | with_reducible exact Grew.refl _ | with_reducible apply Grew.alloc | with_reducible apply Grew.grow | with_reducible apply Grew.drew | with_reducible apply Grew.drewN))), ?_⟩
  refine flowC_abs ?_
  intro V1 hV
  have q1 : V1.rowAt (V.heap.size + δf.n) = wv 0 := by rw [hV]; simp [go_sem]
  have q2 : V1.rowFree (V.heap.size + δf.n) = true := by rw [hV]; simp [go_sem]
  have q3 : V.heap.size + δf.n < V1.heap.size := by rw [hV]; simp
  have gV1 : Grew V V1 := by rw [hV]; exact (by repeat (first | with_reducible exact Grew.refl _ | with_reducible apply Grew.alloc | with_reducible apply Grew.grow | with_reducible apply Grew.drew | with_reducible apply Grew.drewN))
  obtain ⟨b6, hb6⟩ : ∃ b6, V.heap.size + δf.n = b6 := ⟨_, rfl⟩
  have zb : Z.heap.size ≤ b6 := by omega
  have GV1 := Lib.hid (GV.out.trans gV1)
  rw [hb6] at q1 q2 q3 ⊢
  clear hV gV1 hb6 GV
  refine wpFlowC_one 11 (by decide +kernel) (by kernel_rfl) (by kernel_rfl) ?_
  unfold wpFlowCS
  simp only [pickOps_cons, pickOps_nil, pick1_zero, pick1_succ]
  intro δf hCf
  go_wp2
  have kW2 := KeepsX.setRow (KeepsX.grew _ _ _ _ HC0.out GV1.out) b6 (wv 4) zb
  refine ⟨KeepsX.grew _ _ _ _ kW2 ⟨δf, rfl⟩, ?_⟩
  refine flowC_abs ?_
  intro V2 hV
  have gV2 : Grew Z V2 := by rw [hV]; exact (Grew.setRow_new GV1.out _ _ zb).grow _
  have r6 : V2.rowAt b6 = wv 4 := by rw [hV]; simp [go_sem, q3, q2]
  have z6 : b6 < V2.heap.size := by rw [hV]; simp [setRow_size]; omega
  have GV2 := Lib.hid gV2
  clear hV gV2 kW2 q1 q2 q3 zb hCf GV1
  apply wpFlowC_quiets [12] HCG.out ⟨_, HC0.out⟩ (by decide +kernel) (by decide +kernel) (by kernel_rfl) (by intro _ _ _ d _ h; cases d <;> exact h) _
  · intro A hA Y hY
    simp only [pickOps_cons, pickOps_nil, pick1_zero, pick1_succ]
    repeat (go_big_quiet_step ((fail)))
    exact wpQuiet_nil hA.out.symm
  refine wpFlowC_end (by decide +kernel) (by kernel_rfl) ?_
  intro δf hCf
  refine exit_abs ?_
  intro U hU
  have gU : Grew V2 U := by rw [hU]; exact (by repeat (first | with_reducible exact Grew.refl _ | with_reducible apply Grew.alloc | with_reducible apply Grew.grow | with_reducible apply Grew.drew | with_reducible apply Grew.drewN))
  have gZU : Grew Z U := GV2.out.trans gU
  replace r6 : U.rowAt b6 = wv 4 := by rw [Grew.rowAt gU _ z6]; exact r6
  replace z6 : b6 < U.heap.size := Nat.lt_of_lt_of_le z6 gU.size
  have a0 : U.rangeAt b3 0 A.cs := by
    have := rangeAt_grew (HLA.out 0 A rfl) gZU
    simpa using this
  have a1 : U.rangeAt b3 37 B.cs := by
    have := rangeAt_grew (HLA.out 1 B rfl) gZU
    simpa using this
  have d0 : U.rangeAt pb po D.cs := by
    have := rangeAt_grew (HPA.out 0 D rfl) gZU
    simpa using this
  have d1 : U.rangeAt pb (po + 37) C.cs := by
    have := rangeAt_grew (HPA.out 1 C rfl) gZU
    simpa using this
  have e0 := range_n d0
  have e1 := range_n d1
  rw [HN.out.1] at e0
  rw [HN.out.2] at e1
  have f0 : ∀ δ, (rowLoad 29 (.pointer (some ⟨b3, 0, none⟩))).run Try.prog (U.grow δ) = .ok (.value (.agg (ta A.h.l A.w.n A.n))) (U.grow δ) := load_totg a0
  have f1 : ∀ δ, (rowLoad 29 (.pointer (some ⟨b3, 37, none⟩))).run Try.prog (U.grow δ) = .ok (.value (.agg (ta B.h.l B.w.n B.n))) (U.grow δ) := load_totg a1
  have HOU := Lib.hid (HO3.out.grew gZU)
  have GU := Lib.hid (GZ.out.trans gZU)
  have pbU : pb < U.heap.size := Nat.lt_of_lt_of_le hpb gZU.size
  have lbU : b3 < U.heap.size := Nat.lt_of_lt_of_le hlb gZU.size
  clear hU gU gZU a0 a1 d0 d1 hCf HCG HC0 GV2 HO3 HT3 HS3 HPA HLA GZ hpb hlb
  go_wp2
  first | refine wp_region_pure_lit_g (by kernel_rfl) (by kernel_rfl) ?_ | refine wp_region_pure_lit (by kernel_rfl) (by kernel_rfl) ?_
  repeat (go_big_quiet_step ((first | (go_at_call 18; exact Calls.pure_of (CR.out _ _ (HOU.out.grew (by repeat (first | with_reducible exact Grew.refl _ | with_reducible apply Grew.alloc | with_reducible apply Grew.grow | with_reducible apply Grew.drew | with_reducible apply Grew.drewN))))) | (go_at_call 17; exact Calls.pure_of (CS.out _ _ (HOU.out.grew (by repeat (first | with_reducible exact Grew.refl _ | with_reducible apply Grew.alloc | with_reducible apply Grew.grow | with_reducible apply Grew.drew | with_reducible apply Grew.drewN))))) | (go_at_call 20; exact Calls.pure_of (CJ.out _)))))
  refine wpQuiet_nil ?_
  intro _ hw'
  obtain ⟨δ1, hw''⟩ := hw'
  subst hw''
  go_wp2
  go_ret
  exact ⟨rfl, GU.out.trans (by repeat (first | with_reducible exact Grew.refl _ | with_reducible apply Grew.alloc | with_reducible apply Grew.grow | with_reducible apply Grew.drew | with_reducible apply Grew.drewN))⟩
end Go.Proofs.Ytnhcamklammcdaa
/- How the reader reads an id. -/
namespace Go.Proofs.Ytnhcamklammcdaa
set_option linter.unusedVariables false
set_option linter.unusedSimpArgs false
open Go.ChangeShapes Go.WideShapes Go.ChangeAt Go.RowKit

theorem cellsId : Try.prog.cellsOf 24 = 32 := by kernel_rfl
theorem trod_bytes_mk {H : Type} {enc : TypeId × Value → H} (W : World) (base : Nat) (sp : Nat → Bool) (l : List Nat) (hl : l.length = 32) (hc : ∀ c ∈ l, c < 256) :
    DataW.Trod enc Try.prog W base sp true 24 (.agg (iv l)) (.agg (l.map fun (c : Nat) => .lit (.int .u8 (c : Int)))) [] := by
  refine ⟨2, ?_⟩
  unfold DataW.trod
  rw [under_id]
  have e1 : (Value.agg (iv l)).cells.toList = l.map (fun (c : Nat) => Value.int .u8 (c : Int)) := rfl
  rw [e1]
  simp only [List.length_map, hl, cellsId, cells8, Nat.mul_one, if_true]
  rw [mapM_some_of_get (List.range 32) (l.map fun (c : Nat) => ((.lit (.int .u8 (c : Int)), []) : DataW H × List MemPlace)) (by simp [hl]) ?_]
  · simp
  · intro i x hx
    have hi : i < 32 := by
      have := (List.getElem?_eq_some_iff.1 hx).1
      simpa using this
    have : x = i := by simpa [List.getElem?_range hi] using hx.symm
    subst this
    have e2 : ((l.map (fun (c : Nat) => Value.int .u8 (c : Int))).drop x).take 1 = [Value.int .u8 ((l[x]'(by omega) : Nat) : Int)] := by
      rw [List.drop_eq_getElem_cons (by simpa using (by omega : x < l.length))]
      simp
    rw [e2]
    have hw : (Lit.int .u8 ((l[x]'(by omega) : Nat) : Int)).wf = true := wf_u8 _ (hc _ (List.getElem_mem _))
    unfold DataW.trod
    rw [Try.underlying5]
    simp [hw, hl, hi]

set_option maxRecDepth 100000 in
set_option maxHeartbeats 400000 in
theorem open_id {H : Type} {enc : TypeId × Value → H} {W : World} {base : Nat} {sp : Nat → Bool} {v : Value} {d : DataW H} {p : List MemPlace}
    (hv : Value.okWide Try.prog W .any base 24 v) (h : DataW.Trod enc Try.prog W 0 sp true 24 v d p) :
    ∃ x : Idb, v = .agg (iv x.l) ∧ p = [] ∧ ∀ (W' : World) (sp' : Nat → Bool), DataW.Trod enc Try.prog W' 0 sp' true 24 (.agg (iv x.l)) d [] := by
  obtain ⟨cs, rfl, hsz, _⟩ : ∃ cs, v = .agg cs ∧ cs.size = Try.prog.cellsOf 24 ∧ Row.okWide Try.prog W .any base 24 cs := by
    simpa [Value.okWide, under_id] using hv
  rw [cellsId] at hsz
  obtain ⟨fuel, hf⟩ := h
  obtain ⟨xs, m, rfl, hx, hl, hn, hel⟩ := DataW.trod_array under_id hf
  have hcl : (Value.agg cs).cells.toList = cs.toList := rfl
  rw [hcl] at hel hl
  rw [cells8] at hel
  have hlen : cs.toList.length = 32 := by simpa using hsz
  obtain ⟨l, e1, e2, e3⟩ := bytes_of_trod (cs := cs.toList) (xs := xs) (by rw [hn, hlen]) (fun i hi => by
    have := hel i (by omega)
    simpa using this)
  have hll : l.length = 32 := by
    have := congrArg List.length e1
    rw [hlen] at this
    simpa using this.symm
  simp only [Prod.mk.injEq] at hx
  obtain ⟨hd, hp⟩ := hx
  refine ⟨⟨l, hll, e2⟩, ?_, ?_, fun W' sp' => ?_⟩
  · have : cs = iv l := by
      cases cs; simp only at e1; subst e1; rfl
    rw [this]
  · rw [hp, e3]
    simp
    try (induction l <;> simp_all)
  · have : d = .agg (l.map fun (c : Nat) => .lit (.int .u8 (c : Int))) := by
      rw [hd, e3, List.map_map]; rfl
    rw [this]
    exact trod_bytes_mk W' 0 sp' l hll e2
end Go.Proofs.Ytnhcamklammcdaa
/- An argument of ids, opened. -/
namespace Go.Proofs.Ytnhcamklammcdaa
set_option linter.unusedVariables false
set_option linter.unusedSimpArgs false
open Go.ChangeShapes Go.WideShapes Go.ChangeAt Go.RowKit
set_option maxRecDepth 100000
/-- The cells of an id, read. -/
theorem cells_id {H : Type} {enc : TypeId × Value → H} {W : World} {base : Nat} {sp : Nat → Bool} {fuel : Nat} {cs : List Value} {d : DataW H × List MemPlace}
    (hn : cs.length = 32) (hf : DataW.trod enc Try.prog W base sp true fuel 24 cs = some d) : ∃ x : Idb, cs = x.cs := by
  obtain ⟨xs, m, rfl, hx, hl, hn2, hel⟩ := DataW.trod_array under_id hf
  rw [cells8] at hel
  obtain ⟨l, e1, e2, e3⟩ := bytes_of_trod (cs := cs) (xs := xs) (by rw [hn2, hn]) (fun i hi => by
    have := hel i (by omega)
    simpa using this)
  exact ⟨⟨l, by rw [e1] at hn; simpa using hn, e2⟩, e1⟩
theorem open_ids {H : Type} {enc : TypeId × Value → H} {W : World} {v : Value} {d : DataW H} {p : List MemPlace} (h : DataW.Trod enc Try.prog W 0 (fun _ => true) true 43 v d p) (hv : v.cells = #[v]) :
    ∃ (q : Option Addr) (c : Nat) (l : List Idb), v = .slice q l.length c ∧ l.length ≤ maxLen ∧ ShowsI W (.slice q l.length c) l := by
  obtain ⟨fuel, hf⟩ := h
  rw [hv] at hf
  rcases Deep.open_slice under_ids hf with ⟨hcs, _⟩ | ⟨a, len, cap, m, n, D, Pl, hcs, _, hl, hm, hmm, _, hel⟩
  · obtain rfl : v = .slice none 0 0 := by simpa using hcs
    exact ⟨none, 0, [], rfl, by simp, .inr ⟨_, _, rfl, rfl⟩⟩
  · obtain rfl : v = .slice (some a) len cap := by simpa using hcs
    simp only [if_true] at hmm
    subst hmm
    rw [cellsId] at hel
    have each : ∀ i, i < m → ∃ x : Idb, ∀ j, j < 32 → W.cell? ((a.add (i * 32)).add j) = x.cs[j]? := fun i hi => by
      obtain ⟨cs', h1, h2⟩ := hel i hi
      obtain ⟨_, hlen, hget⟩ := World.cells?_some h1
      obtain ⟨x, rfl⟩ := cells_id hlen h2
      exact ⟨x, hget⟩
    have pick : ∀ n, n ≤ m → ∃ l : List Idb, l.length = n ∧ ∀ i x, l[i]? = some x → ∀ j, j < 32 → W.cell? ((a.add (i * 32)).add j) = x.cs[j]? := by
      intro n
      induction n with
      | zero => exact fun _ => ⟨[], rfl, by simp⟩
      | succ n ih =>
        intro hn
        obtain ⟨l, h1, h2⟩ := ih (by omega)
        obtain ⟨x, h3⟩ := each n (by omega)
        refine ⟨l ++ [x], by simp [h1], fun i y hy => ?_⟩
        rcases Nat.lt_or_ge i n with h | h
        · rw [List.getElem?_append_left (by omega)] at hy
          exact h2 i y hy
        · rw [List.getElem?_append_right (by omega)] at hy
          have hi : i = n := by
            have := (List.getElem?_eq_some_iff.1 hy).1
            simp at this; omega
          subst hi
          simp only [h1, Nat.sub_self, List.getElem?_cons_zero, Option.some.injEq] at hy
          subst hy
          exact h3
    obtain ⟨l, hll, hcell⟩ := pick len hl
    refine ⟨some a, m, l, by rw [hll], by omega, ?_⟩
    cases hx : l with
    | nil => exact .inr ⟨_, _, rfl, rfl⟩
    | cons x0 r =>
      rw [← hx]
      have h0 := hcell 0 x0 (by rw [hx]; rfl) 0 (by omega)
      have hv0 : ∃ v, x0.cs[0]? = some v := ⟨_, List.getElem?_eq_getElem (by rw [x0.cs_len]; omega)⟩
      obtain ⟨v0, hv0⟩ := hv0
      rw [hv0, Nat.zero_mul, Deep.add_add] at h0
      have ha : a.add (0 + 0) = a := by unfold Addr.add; simp
      rw [ha] at h0
      obtain ⟨e, hb⟩ := plain_of_cell h0
      refine .inl ⟨a.block, a.off, m, by rw [e], by omega, hb, fun j x hj i v hi => ?_⟩
      have hi2 : i < 32 := by have := (List.getElem?_eq_some_iff.1 hi).1; rwa [x.cs_len] at this
      have := hcell j x hj i hi2
      rw [hi, Deep.add_add, e, add_off] at this
      rw [Nat.add_assoc]
      exact this
end Go.Proofs.Ytnhcamklammcdaa
/- Arguments that are totals, and slices of them, opened. -/
namespace Go.Proofs.Ytnhcamklammcdaa
set_option linter.unusedVariables false
set_option linter.unusedSimpArgs false
open Go.ChangeShapes Go.WideShapes Go.ChangeAt Go.RowKit
set_option maxRecDepth 100000
theorem cellsW4 : Try.prog.cellsOf 27 = 4 := by kernel_rfl
theorem cellsU1 : Try.prog.cellsOf 25 = 1 := by kernel_rfl
theorem cellsI1 : Try.prog.cellsOf 3 = 1 := by kernel_rfl
theorem cellsT : Try.prog.cellsOf 29 = 37 := by kernel_rfl
theorem u64_nat' {a : Int} (h : (Lit.int .u64 a).wf = true) : ∃ n : Nat, a = n ∧ n < 18446744073709551616 := by
  have hx : 0 ≤ a ∧ a ≤ 18446744073709551615 := by simpa [Lit.wf, IntKind.min, IntKind.max, IntKind.signed, IntKind.bits] using h
  exact ⟨a.toNat, by omega, by omega⟩
theorem i64_bd {a : Int} (h : (Lit.int .i64 a).wf = true) : -9223372036854775808 ≤ a ∧ a ≤ 9223372036854775807 := by
  simpa [Lit.wf, IntKind.min, IntKind.max, IntKind.signed, IntKind.bits] using h
theorem list4' {α : Type} (l : List α) (h : l.length = 4) : ∃ a b c d, l = [a, b, c, d] := by
  match l, h with
  | [a, b, c, d], _ => exact ⟨a, b, c, d, rfl⟩
/-- The cells of a number below 2^256, read. -/
theorem cells_wd {H : Type} {enc : TypeId × Value → H} {W : World} {base : Nat} {sp : Nat → Bool} {fuel : Nat} {cs : List Value} {d : DataW H × List MemPlace}
    (hn : cs.length = 4) (hf : DataW.trod enc Try.prog W base sp true fuel 27 cs = some d) : ∃ x : Wd, cs = (wv x.n).toList := by
  obtain ⟨c0, c1, c2, c3, rfl⟩ := list4' cs hn
  obtain ⟨y0, y1, y2, y3, m, hx, hy0, hy1, hy2, hy3⟩ := trod_array4 Try.underlying27 cellsU1 hf
  obtain ⟨x0, e0, rfl, w0⟩ := DataW.trod_int Try.underlying25 hy0
  obtain ⟨x1, e1, rfl, w1⟩ := DataW.trod_int Try.underlying25 hy1
  obtain ⟨x2, e2, rfl, w2⟩ := DataW.trod_int Try.underlying25 hy2
  obtain ⟨x3, e3, rfl, w3⟩ := DataW.trod_int Try.underlying25 hy3
  simp at e0 e1 e2 e3
  subst e0 e1 e2 e3
  obtain ⟨n0, rfl, b0⟩ := u64_nat' w0
  obtain ⟨n1, rfl, b1⟩ := u64_nat' w1
  obtain ⟨n2, rfl, b2⟩ := u64_nat' w2
  obtain ⟨n3, rfl, b3⟩ := u64_nat' w3
  exact ⟨⟨w4 n0 n1 n2 n3, w4_lt b0 b1 b2 b3⟩, by rw [← wv_w4 b0 b1 b2 b3]⟩
/-- The cells of a total, read. -/
theorem cells_tot {H : Type} {enc : TypeId × Value → H} {W : World} {base : Nat} {sp : Nat → Bool} {fuel : Nat} {cs : List Value} {d : DataW H × List MemPlace}
    (hn : cs.length = 37) (hf : DataW.trod enc Try.prog W base sp true fuel 29 cs = some d) : ∃ x : Tot, cs = x.cs := by
  obtain ⟨ys, n, hn', hy, hlen, hyl, hfl⟩ := DataW.trod_struct under_tot hf
  have hfs := fields_tot
  obtain ⟨fs, hfs2⟩ : ∃ fs, (Try.prog.fieldsOf 29).toList = fs := ⟨_, rfl⟩
  rw [hfs2] at hfs
  match fs, hfs with
  | [f0, f1, f2], hfs =>
    simp only [List.map_cons, List.map_nil, List.cons.injEq, Prod.mk.injEq, and_true] at hfs
    obtain ⟨⟨n0, t0, o0⟩, ⟨n1, t1, o1⟩, ⟨n2, t2, o2⟩⟩ := hfs
    have g : ∀ j : Nat, (Try.prog.fieldsOf 29)[j]? = [f0, f1, f2][j]? := fun j => by rw [← hfs2, Array.getElem?_toList]
    have h0 := hfl 0 f0 (g 0)
    have h1 := hfl 1 f1 (g 1)
    have h2 := hfl 2 f2 (g 2)
    rw [t0, o0] at h0
    rw [t1, o1] at h1
    rw [t2, o2] at h2
    have hsz : (Try.prog.fieldsOf 29).size = 3 := by rw [← Array.length_toList, hfs2]; rfl
    have s0 : ys[0]? = some ys[0] := List.getElem?_eq_getElem (by omega)
    have s1 : ys[1]? = some ys[1] := List.getElem?_eq_getElem (by omega)
    have s2 : ys[2]? = some ys[2] := List.getElem?_eq_getElem (by omega)
    rw [cellsId, List.drop_zero, s0] at h0
    rw [cellsW4, s1] at h1
    rw [cellsI1, s2] at h2
    obtain ⟨h, e0⟩ := cells_id (by rw [List.length_take]; omega) h0
    obtain ⟨x, e1⟩ := cells_wd (by rw [List.length_take, List.length_drop]; omega) h1
    obtain ⟨k, e2, _, w2⟩ := DataW.trod_int Try.underlying3 h2
    have hk := i64_bd w2
    refine ⟨⟨h, x, k, hk.1, hk.2⟩, ?_⟩
    have e3 : cs = cs.take 32 ++ ((cs.drop 32).take 4 ++ (cs.drop 36).take 1) := by
      have a1 : (cs.drop 36).take 1 = cs.drop 36 := List.take_of_length_le (by rw [List.length_drop]; omega)
      have a2 : cs.drop 36 = (cs.drop 32).drop 4 := by rw [List.drop_drop]
      rw [a1, a2, List.take_append_drop, List.take_append_drop]
    rw [e3, e0, e1, e2]
    rfl
theorem open_total {H : Type} {enc : TypeId × Value → H} {W : World} {base : Nat} {sp : Nat → Bool} {v : Value} {d : DataW H} {p : List MemPlace}
    (hv : Value.okWide Try.prog W .any base 29 v) (h : DataW.Trod enc Try.prog W 0 sp true 29 v d p) : ∃ x : Tot, v = x.v := by
  obtain ⟨cs, rfl, hsz⟩ := okWide_struct under_tot hv
  rw [cellsT] at hsz
  obtain ⟨fuel, hf⟩ := h
  obtain ⟨x, hx⟩ := cells_tot (cs := cs.toList) (by simpa using hsz) hf
  exact ⟨x, congrArg Value.agg (arr_ext hx)⟩
theorem open_wd {H : Type} {enc : TypeId × Value → H} {W : World} {base : Nat} {sp : Nat → Bool} {v : Value} {d : DataW H} {p : List MemPlace}
    (hv : Value.okWide Try.prog W .any base 27 v) (h : DataW.Trod enc Try.prog W 0 sp true 27 v d p) : ∃ x : Wd, v = .agg (wv x.n) := by
  obtain ⟨cs, rfl, hsz, _⟩ : ∃ cs, v = .agg cs ∧ cs.size = Try.prog.cellsOf 27 ∧ Row.okWide Try.prog W .any base 27 cs := by
    simpa [Value.okWide, Try.underlying27] using hv
  rw [cellsW4] at hsz
  obtain ⟨fuel, hf⟩ := h
  obtain ⟨x, hx⟩ := cells_wd (cs := cs.toList) (by simpa using hsz) hf
  exact ⟨x, congrArg Value.agg (arr_ext hx)⟩
theorem open_tots {H : Type} {enc : TypeId × Value → H} {W : World} {v : Value} {d : DataW H} {p : List MemPlace} (h : DataW.Trod enc Try.prog W 0 (fun _ => true) true 22 v d p) (hv : v.cells = #[v]) :
    ∃ (q : Option Addr) (c : Nat) (l : List Tot), v = .slice q l.length c ∧ l.length ≤ maxLen ∧ ShowsT W (.slice q l.length c) l := by
  obtain ⟨fuel, hf⟩ := h
  rw [hv] at hf
  rcases Deep.open_slice under_ts hf with ⟨hcs, _⟩ | ⟨a, len, cap, m, n, D, Pl, hcs, _, hl, hm, hmm, _, hel⟩
  · obtain rfl : v = .slice none 0 0 := by simpa using hcs
    exact ⟨none, 0, [], rfl, by simp, .inr ⟨_, _, rfl, rfl⟩⟩
  · obtain rfl : v = .slice (some a) len cap := by simpa using hcs
    simp only [if_true] at hmm
    subst hmm
    rw [cellsT] at hel
    have each : ∀ i, i < m → ∃ x : Tot, ∀ j, j < 37 → W.cell? ((a.add (i * 37)).add j) = x.cs[j]? := fun i hi => by
      obtain ⟨cs', h1, h2⟩ := hel i hi
      obtain ⟨_, hlen, hget⟩ := World.cells?_some h1
      obtain ⟨x, rfl⟩ := cells_tot hlen h2
      exact ⟨x, hget⟩
    have pick : ∀ n, n ≤ m → ∃ l : List Tot, l.length = n ∧ ∀ i x, l[i]? = some x → ∀ j, j < 37 → W.cell? ((a.add (i * 37)).add j) = x.cs[j]? := by
      intro n
      induction n with
      | zero => exact fun _ => ⟨[], rfl, by simp⟩
      | succ n ih =>
        intro hn
        obtain ⟨l, h1, h2⟩ := ih (by omega)
        obtain ⟨x, h3⟩ := each n (by omega)
        refine ⟨l ++ [x], by simp [h1], fun i y hy => ?_⟩
        rcases Nat.lt_or_ge i n with h | h
        · rw [List.getElem?_append_left (by omega)] at hy
          exact h2 i y hy
        · rw [List.getElem?_append_right (by omega)] at hy
          have hi : i = n := by
            have := (List.getElem?_eq_some_iff.1 hy).1
            simp at this; omega
          subst hi
          simp only [h1, Nat.sub_self, List.getElem?_cons_zero, Option.some.injEq] at hy
          subst hy
          exact h3
    obtain ⟨l, hll, hcell⟩ := pick len hl
    refine ⟨some a, m, l, by rw [hll], by omega, ?_⟩
    cases hx : l with
    | nil => exact .inr ⟨_, _, rfl, rfl⟩
    | cons x0 r =>
      rw [← hx]
      have h0 := hcell 0 x0 (by rw [hx]; rfl) 0 (by omega)
      have hv0 : ∃ v, x0.cs[0]? = some v := ⟨_, List.getElem?_eq_getElem (by rw [x0.cs_len]; omega)⟩
      obtain ⟨v0, hv0⟩ := hv0
      rw [hv0, Nat.zero_mul, Deep.add_add] at h0
      have ha : a.add (0 + 0) = a := by unfold Addr.add; simp
      rw [ha] at h0
      obtain ⟨e, hb⟩ := plain_of_cell h0
      refine .inl ⟨a.block, a.off, m, by rw [e], by omega, hb, fun j x hj i v hi => ?_⟩
      have hi2 : i < 37 := by have := (List.getElem?_eq_some_iff.1 hi).1; rwa [x.cs_len] at this
      have := hcell j x hj i hi2
      rw [hi, Deep.add_add, e, add_off] at this
      rw [Nat.add_assoc]
      exact this
end Go.Proofs.Ytnhcamklammcdaa
/- The document's Append. -/
namespace Go.Proofs.Ytnhcamklammcdaa
set_option linter.unusedVariables false
set_option linter.unusedSimpArgs false
open Go.RowKit
set_option maxRecDepth 100000
set_option maxHeartbeats 6400000 in
theorem rappend_w (p : List Tot) (leaf : Tot) (v : Value) (w : World) (hv : ShowsT w v p) (hl : p.length ≤ 1000) :
    Calls Try.prog 12 #[v, .agg (ta leaf.h.l leaf.w.n leaf.n)] w fun e w' => ∃ v', e = .returned v' ∧ OwnT w' w.heap.size 29 v' (appT p leaf) ∧ Grew w w' := by
  obtain ⟨q, c, rfl⟩ := showsT_form hv
  obtain ⟨ii, hif, hz, hsz, hby⟩ := info_t
  have HV := Lib.hid hv
  have hlf := leaf.h.len
  clear hv
  go_enter Try.func12, Try.ntmps12
  go_wp2_with (at_builtin; refine stop_of ?_)
  unfold Stop
  refine wpList_abs ?_
  intro Y hY
  have ra : Y.rowAt w.heap.size = ta leaf.h.l leaf.w.n leaf.n := by rw [hY]; simp [go_sem]
  have g0 : Grew w Y := by rw [hY]; exact (by repeat (first | with_reducible exact Grew.refl _ | with_reducible apply Grew.alloc | with_reducible apply Grew.grow | with_reducible apply Grew.drew | with_reducible apply Grew.drewN))
  have z0 : Y.heap.size = w.heap.size + 1 := by rw [hY]; simp
  have lt1 : w.heap.size < Y.heap.size := by omega
  have G0 := Lib.hid g0
  clear hY g0
  refine wpList_appendE2 Tot.cs_len (by decide) rfl _ _ _ rfl _ ii _ 72 under_ts hif hz hsz hby tot0_cells Tot.cs_one Y _ Y.heap.size _ _ rfl rfl [] p (Grew.refl _) (Nat.le_refl _) (Nat.le_refl _) (OwnE.nil _ _ _) (by exact HV.out.grew G0.out) (by simp [maxLen]; omega) (by simp; omega) ?_
  intro v1 W1 ho1 hg1
  rw [List.nil_append] at ho1
  have rb : W1.rowAt w.heap.size = ta leaf.h.l leaf.w.n leaf.n := by rw [Grew.rowAt hg1 _ lt1]; exact ra
  have lt2 : w.heap.size < W1.heap.size := Nat.lt_of_lt_of_le lt1 hg1.size
  have O1 := Lib.hid (ho1.base (show w.heap.size ≤ _ by omega))
  have G1 := Lib.hid (G0.out.trans hg1)
  clear ho1 hg1 ra lt1 G0 z0
  go_wp2_with (at_builtin; refine stop_of ?_)
  unfold Stop
  refine wpList_abs ?_
  intro W hW
  have gW : Grew W1 W := by rw [hW]; exact (by repeat (first | with_reducible exact Grew.refl _ | with_reducible apply Grew.alloc | with_reducible apply Grew.grow | with_reducible apply Grew.drew | with_reducible apply Grew.drewN))
  have sh : ShowsT W (.slice (some ⟨W1.heap.size, 0, none⟩) 1 1) [leaf] := by rw [hW]; exact showsE_one Tot.cs_len W1 leaf _ _ (Nat.le_refl _)
  have GY := Lib.hid (G1.out.trans gW)
  have OW := Lib.hid (O1.out.grew gW)
  clear hW
  refine wpList_appendE2 Tot.cs_len (by decide) rfl _ _ _ rfl _ ii _ 72 under_ts hif hz hsz hby tot0_cells Tot.cs_one w _ w.heap.size _ _ rfl rfl p [leaf] GY.out (Nat.le_refl _) GY.out.size (by exact OW.out) (by exact sh) (by simp [maxLen]; omega) (by simp; omega) ?_
  intro v2 W2 ho2 hg2
  have HO2 := Lib.hid ho2
  have HG2 := Lib.hid hg2
  clear ho2 hg2 gW sh GY OW rb lt2 O1 G1
  go_wp2
  go_loopw [5] (fun vv wr => ∃ l : List Tot, 1 ≤ l.length ∧ l.length ≤ p.length + 1 ∧ mergeR l.reverse = mergeR (p ++ [leaf]).reverse ∧ OwnT wr w.heap.size 29 vv l ∧ Grew w wr) (fun vv _ => lenV vv)
  case atStart => exact ⟨p ++ [leaf], by simp, by simp, rfl, HO2.out, HG2.out⟩
  case round =>
    obtain ⟨l, h1, h2, hm, ho, hg⟩ := hrel
    obtain ⟨rfl, h0⟩ | ⟨g, cap, rfl, hb, hgs, hc⟩ := ho.form
    · rw [h0] at h1; simp at h1
    have HO := Lib.hid ho
    have HG := Lib.hid hg
    have HM := Lib.hid hm
    obtain ⟨N, hN⟩ : ∃ N, l.length = N := ⟨_, rfl⟩
    have HN := Lib.hid hN
    rw [hN] at h1 h2 hc HO ⊢
    clear ho hg hm hN HO2 HG2
    by_cases hA : N < 2
    · have a1 : decide ((2 : Int) ≤ (N : Int)) = false := decide_eq_false (by omega)
      have a2 : decide (2 ≤ N) = false := decide_eq_false (by omega)
      have hap : appT p leaf = l := by
        unfold appT
        rw [← HM.out, mergeR_one l.reverse (by rw [List.length_reverse, HN.out]; omega), List.reverse_reverse]
      have HAP := Lib.hid hap
      clear hap hA
      go_wp2
      first | refine wp_region_pure_lit_g (by kernel_rfl) (by kernel_rfl) ?_ | refine wp_region_pure_lit (by kernel_rfl) (by kernel_rfl) ?_
      repeat (go_big_quiet_step ((fail)))
      refine wpQuiet_nil ?_
      intro _ hw'
      obtain ⟨δ1, hw''⟩ := hw'
      subst hw''
      go_wp2
      go_ret
      exact ⟨_, rfl, by rw [HAP.out]; exact HO.out.grew (by repeat (first | with_reducible exact Grew.refl _ | with_reducible apply Grew.alloc | with_reducible apply Grew.grow | with_reducible apply Grew.drew | with_reducible apply Grew.drewN)), HG.out.trans (by repeat (first | with_reducible exact Grew.refl _ | with_reducible apply Grew.alloc | with_reducible apply Grew.grow | with_reducible apply Grew.drew | with_reducible apply Grew.drewN))⟩
    · have a1 : decide ((2 : Int) ≤ (N : Int)) = true := decide_eq_true (by omega)
      have a2 : decide (2 ≤ N) = true := decide_eq_true (by omega)
      obtain ⟨n, hn⟩ : ∃ n, N = n + 2 := ⟨N - 2, by omega⟩
      obtain ⟨m, hmn⟩ : ∃ m, m = n + 1 := ⟨_, rfl⟩
      obtain ⟨x, hx⟩ : ∃ x, l[m]? = some x := ⟨_, List.getElem?_eq_getElem (by rw [HN.out]; omega)⟩
      obtain ⟨y, hy⟩ : ∃ y, l[n]? = some y := ⟨_, List.getElem?_eq_getElem (by rw [HN.out]; omega)⟩
      have rx := OwnE.range Tot.cs_len HO.out m x hx
      have ry := OwnE.range Tot.cs_len HO.out n y hy
      have cx := range_n rx
      have cy := range_n ry
      have e1 : (N : Int) - 1 = (m : Int) := by omega
      have e2 : (N : Int) - 2 = (n : Int) := by omega
      have i1 : (m : Int) < (N : Int) := by omega
      have i2 : (n : Int) < (N : Int) := by omega
      have w1 : (m : Int) ≤ 2000 := by omega
      have w2 : (n : Int) ≤ 2000 := by omega
      have w3 : (N : Int) ≤ 2000 := by omega
      by_cases hq : x.n = y.n
      rotate_left
      · have hap : appT p leaf = l := by
          unfold appT
          rw [← HM.out, app_stop l x y (by rw [HN.out]; omega) (by rw [HN.out, hn, show n + 2 - 1 = m by omega]; exact hx) (by rw [HN.out, hn]; exact hy) hq, List.reverse_reverse]
        have HAP := Lib.hid hap
        have q1 : decide (x.n = y.n) = false := decide_eq_false hq
        have q2 : (x.n == y.n) = false := by simpa using hq
        clear hap hA hx hy rx ry hn h1 h2 hmn
        go_wp2
        first | refine wp_region_pure_lit_g (by kernel_rfl) (by kernel_rfl) ?_ | refine wp_region_pure_lit (by kernel_rfl) (by kernel_rfl) ?_
        repeat (go_big_quiet_step ((fail)))
        refine wpQuiet_nil ?_
        intro _ hw'
        obtain ⟨δ1, hw''⟩ := hw'
        subst hw''
        go_wp2
        go_ret
        exact ⟨_, rfl, by rw [HAP.out]; exact HO.out.grew (by repeat (first | with_reducible exact Grew.refl _ | with_reducible apply Grew.alloc | with_reducible apply Grew.grow | with_reducible apply Grew.drew | with_reducible apply Grew.drewN)), HG.out.trans (by repeat (first | with_reducible exact Grew.refl _ | with_reducible apply Grew.alloc | with_reducible apply Grew.grow | with_reducible apply Grew.drew | with_reducible apply Grew.drewN))⟩
      · have hap := app_two l x y (by rw [HN.out]; omega) (by rw [HN.out, hn, show n + 2 - 1 = m by omega]; exact hx) (by rw [HN.out, hn]; exact hy) hq
        rw [HN.out, hn, Nat.add_sub_cancel, HM.out] at hap
        have HAP := Lib.hid hap
        have q1 : decide (x.n = y.n) = true := decide_eq_true hq
        have q2 : (x.n == y.n) = true := by simpa using hq
        have HT := Lib.hid (ownE_take Tot.cs_len HO.out n (by rw [HN.out]; omega))
        have hlt : (l.take n).length = n := by rw [List.length_take, HN.out]; omega
        have HLT := Lib.hid hlt
        have hlx := x.h.len
        have hly := y.h.len
        have HRX := Lib.hid rx
        have HRY := Lib.hid ry
        have hn3 : (n : Int) ≤ (cap : Int) := by omega
        have HB := Lib.hid hb
        have H1 := Lib.hid (show n + 2 = N from hn.symm)
        have H2 := Lib.hid h2
        clear hap hA hx hy rx ry hlt hb h1 h2 hmn hn hq
        go_wp2
        first | refine wp_region_pure_lit_g (by kernel_rfl) (by kernel_rfl) ?_ | refine wp_region_pure_lit (by kernel_rfl) (by kernel_rfl) ?_
        repeat (go_big_quiet_step ((fail)))
        refine wpQuiet_nil ?_
        intro _ hw'
        obtain ⟨δ1, hw''⟩ := hw'
        subst hw''
        go_wp2
        clear cx cy a1 a2 q1 q2 hgs
        refine wp_region_flowX [12] (by kernel_rfl) ?_
        intro δf
        refine flowX_abs ?_
        intro Y hY
        have g0 : Grew wr Y := by rw [hY]; exact (by repeat (first | with_reducible exact Grew.refl _ | with_reducible apply Grew.alloc | with_reducible apply Grew.grow | with_reducible apply Grew.drew | with_reducible apply Grew.drewN))
        have ld1 : ∀ δ, (rowLoad 29 (.pointer (some ⟨g, m * 37, none⟩))).run Try.prog (Y.grow δ) = .ok (.value (.agg (ta x.h.l x.w.n x.n))) (Y.grow δ) := load_totg (rangeAt_grew HRX.out g0)
        have ld2 : ∀ δ, (rowLoad 29 (.pointer (some ⟨g, n * 37, none⟩))).run Try.prog (Y.grow δ) = .ok (.value (.agg (ta y.h.l y.w.n y.n))) (Y.grow δ) := load_totg (rangeAt_grew HRY.out g0)
        have G0 := Lib.hid g0
        clear hY g0
        apply wpFlowX_quiets [0,1,2,3,4,5,6,7,8,9] (by decide +kernel) (by decide +kernel) (by kernel_rfl) (by intro _ _ _ d _ h; cases d <;> exact h) _
        · intro A hA δ'
          simp only [pickOps_cons, pickOps_nil, pick1_zero, pick1_succ]
          repeat (go_big_quiet_step ((fail)))
          exact wpQuiet_nil hA.out.symm
        clear ld1 ld2
        obtain ⟨J0, hJ0⟩ : ∃ J0, Tot.join y x = J0 := ⟨_, rfl⟩
        have jw := fun w => rjoin_w y x w
        unfold Tot.v at jw
        rw [hJ0] at HAP jw
        have JW := Lib.hid jw
        have hlj := J0.h.len
        clear jw hJ0
        apply wpFlowX_quiets [10] (by decide +kernel) (by decide +kernel) (by kernel_rfl) (by intro _ _ _ d _ h; cases d <;> exact h) _
        · intro A hA δ'
          simp only [pickOps_cons, pickOps_nil, pick1_zero, pick1_succ]
          repeat (go_big_quiet_step ((go_at_call 21; (with_reducible first | exact Calls.pure_of_g3 (JW.out _) | exact Calls.pure_of_g4 (JW.out _) | exact Calls.pure_of_g (JW.out _) | exact Calls.pure_of_g5 (JW.out _)))))
          exact wpQuiet_nil hA.out.symm
        refine wpFlowX_one 11 (by decide +kernel) (by kernel_rfl) (by decide +kernel) (by decide +kernel) ?_
        simp only [pickOps_cons, pickOps_nil, pick1_zero, pick1_succ]
        intro δf
        go_wp2_with (fail)
        refine ⟨(by first | assumption | (simp only [grow_grow, Array.append_assoc]; assumption) | exact Grew.refl _ | (simp only [grow_grow, Array.append_assoc]; exact (by repeat (first | with_reducible exact Grew.refl _ | with_reducible apply Grew.alloc | with_reducible apply Grew.grow | with_reducible apply Grew.drew | with_reducible apply Grew.drewN))) | exact (by repeat (first | with_reducible exact Grew.refl _ | with_reducible apply Grew.alloc | with_reducible apply Grew.grow | with_reducible apply Grew.drew | with_reducible apply Grew.drewN))), ?_⟩
        refine wpFlowX_esc 12 (by decide +kernel) (by kernel_rfl) (by decide +kernel) (by decide +kernel) ?_
        simp only [pickOps_cons, pickOps_nil, pick1_zero, pick1_succ]
        intro δf
        go_wp2
        refine wpAny_end (by decide +kernel) (by kernel_rfl) ?_
        go_wp2
        rename_i δf2
        refine code_abs ?_
        intro Z hZ
        have b7lt : Y.heap.size + δf2.n < Z.heap.size := by rw [hZ]; simp; omega
        have r7 : Z.rowAt (Y.heap.size + δf2.n) = ta J0.h.l J0.w.n J0.n := by rw [hZ]; simp [go_sem]
        have gZ : Grew wr Z := by rw [hZ]; exact G0.out.trans (by repeat (first | with_reducible exact Grew.refl _ | with_reducible apply Grew.alloc | with_reducible apply Grew.grow | with_reducible apply Grew.drew | with_reducible apply Grew.drewN))
        obtain ⟨b7, hb7⟩ : ∃ b7, Y.heap.size + δf2.n = b7 := ⟨_, rfl⟩
        rw [hb7] at b7lt r7 ⊢
        have GZ := Lib.hid gZ
        have SHT := Lib.hid ((OwnE.shows Tot.cs_len HT.out).grew gZ)
        clear hZ gZ hb7 HRX HRY JW G0
        refine wp_region_flowX [7,8] (by kernel_rfl) ?_
        intro δf
        apply wpFlowX_quiets [0,1,2,3,5] (by decide +kernel) (by decide +kernel) (by kernel_rfl) (by intro _ _ _ d _ h; cases d <;> exact h) _
        · intro A hA δ'
          simp only [pickOps_cons, pickOps_nil, pick1_zero, pick1_succ]
          repeat (go_big_quiet_step ((fail)))
          exact wpQuiet_nil hA.out.symm
        refine flowX_abs ?_
        intro Y2 hY
        have g2 : Grew Z Y2 := by rw [hY]; exact (by repeat (first | with_reducible exact Grew.refl _ | with_reducible apply Grew.alloc | with_reducible apply Grew.grow | with_reducible apply Grew.drew | with_reducible apply Grew.drewN))
        have G2 := Lib.hid g2
        clear hY g2
        refine wpFlowX_two 4 6 (by decide +kernel) (by kernel_rfl) (by decide +kernel) (by decide +kernel) ?_ ?_
        unfold wpFlowXS
        simp only [pickOps_cons, pickOps_nil, pick1_zero, pick1_succ]
        intro δf
        refine wpList_appendE2 Tot.cs_len (by decide) rfl _ _ _ rfl _ ii _ 72 under_ts hif hz hsz hby tot0_cells Tot.cs_one (Y2.grow δf) _ (Y2.grow δf).heap.size _ _ rfl rfl [] (l.take n) (Grew.refl _) (Nat.le_refl _) (Nat.le_refl _) (OwnE.nil _ _ _) (by exact (SHT.out.grew G2.out).grew (by repeat (first | with_reducible exact Grew.refl _ | with_reducible apply Grew.alloc | with_reducible apply Grew.grow | with_reducible apply Grew.drew | with_reducible apply Grew.drewN))) (by rw [HLT.out]; simp [maxLen]; omega) (by rw [HLT.out]; simp; omega) ?_
        intro v1 W1 ho1 hg1
        rw [List.nil_append] at ho1
        have g1 : Grew Y2 W1 := (show Grew Y2 _ from (by repeat (first | with_reducible exact Grew.refl _ | with_reducible apply Grew.alloc | with_reducible apply Grew.grow | with_reducible apply Grew.drew | with_reducible apply Grew.drewN))).trans hg1
        have O1 := Lib.hid (ho1.base (show w.heap.size ≤ _ from ((HG.out.trans GZ.out).trans (G2.out.trans (by repeat (first | with_reducible exact Grew.refl _ | with_reducible apply Grew.alloc | with_reducible apply Grew.grow | with_reducible apply Grew.drew | with_reducible apply Grew.drewN)))).size))
        have G1 := Lib.hid ((GZ.out.trans G2.out).trans g1)
        refine wpList_nil_then ?_
        refine ⟨hg1, ?_⟩
        clear ho1 hg1 g1
        refine wpFlowX_one 6 (by decide +kernel) (by kernel_rfl) (by decide +kernel) (by decide +kernel) ?_
        simp only [pickOps_cons, pickOps_nil, pick1_zero, pick1_succ]
        intro δf
        go_wp2_with (fail)
        refine ⟨(by first | assumption | (simp only [grow_grow, Array.append_assoc]; assumption) | exact Grew.refl _ | (simp only [grow_grow, Array.append_assoc]; exact (by repeat (first | with_reducible exact Grew.refl _ | with_reducible apply Grew.alloc | with_reducible apply Grew.grow | with_reducible apply Grew.drew | with_reducible apply Grew.drewN))) | exact (by repeat (first | with_reducible exact Grew.refl _ | with_reducible apply Grew.alloc | with_reducible apply Grew.grow | with_reducible apply Grew.drew | with_reducible apply Grew.drewN))), ?_⟩
        refine flowX_abs ?_
        intro W hW
        have gW : Grew W1 W := by rw [hW]; exact (by repeat (first | with_reducible exact Grew.refl _ | with_reducible apply Grew.alloc | with_reducible apply Grew.grow | with_reducible apply Grew.drew | with_reducible apply Grew.drewN))
        have sh : ShowsT W (.slice (some ⟨W1.heap.size + δf.n, 0, none⟩) 1 1) [J0] := by rw [hW]; exact showsE_one_g Tot.cs_len W1 δf J0 _ _ (Nat.le_refl _)
        have GY := Lib.hid (G1.out.trans gW)
        have OW := Lib.hid (O1.out.grew gW)
        have SH := Lib.hid sh
        obtain ⟨b3, hb3⟩ : ∃ b3, W1.heap.size + δf.n = b3 := ⟨_, rfl⟩
        rw [hb3] at SH ⊢
        clear hW gW sh O1 G1 hb3
        rotate_left
        unfold wpFlowXS
        simp only [pickOps_cons, pickOps_nil, pick1_zero, pick1_succ]
        intro δf
        go_wp2_with (fail)
        refine ⟨(by first | assumption | (simp only [grow_grow, Array.append_assoc]; assumption) | exact Grew.refl _ | (simp only [grow_grow, Array.append_assoc]; exact (by repeat (first | with_reducible exact Grew.refl _ | with_reducible apply Grew.alloc | with_reducible apply Grew.grow | with_reducible apply Grew.drew | with_reducible apply Grew.drewN))) | exact (by repeat (first | with_reducible exact Grew.refl _ | with_reducible apply Grew.alloc | with_reducible apply Grew.grow | with_reducible apply Grew.drew | with_reducible apply Grew.drewN))), ?_⟩
        refine flowX_abs ?_
        intro W1 hW
        have gW : Grew Y2 W1 := by rw [hW]; exact (by repeat (first | with_reducible exact Grew.refl _ | with_reducible apply Grew.alloc | with_reducible apply Grew.grow | with_reducible apply Grew.drew | with_reducible apply Grew.drewN))
        have sh : ShowsT W1 (.slice (some ⟨Y2.heap.size + δf.n, 0, none⟩) 1 1) [J0] := by rw [hW]; exact showsE_one_g Tot.cs_len Y2 δf J0 _ _ (Nat.le_refl _)
        have SH1 := Lib.hid sh
        have GW1 := Lib.hid (G2.out.trans gW)
        obtain ⟨b3, hb3⟩ : ∃ b3, Y2.heap.size + δf.n = b3 := ⟨_, rfl⟩
        rw [hb3] at SH1 ⊢
        clear hW gW sh hb3
        refine wpFlowX_one 4 (by decide +kernel) (by kernel_rfl) (by decide +kernel) (by decide +kernel) ?_
        simp only [pickOps_cons, pickOps_nil, pick1_zero, pick1_succ]
        intro δf
        refine wpList_appendE2 Tot.cs_len (by decide) rfl _ _ _ rfl _ ii _ 72 under_ts hif hz hsz hby tot0_cells Tot.cs_one (W1.grow δf) _ (W1.grow δf).heap.size _ _ rfl rfl [] (l.take n) (Grew.refl _) (Nat.le_refl _) (Nat.le_refl _) (OwnE.nil _ _ _) (by exact (SHT.out.grew GW1.out).grew (by repeat (first | with_reducible exact Grew.refl _ | with_reducible apply Grew.alloc | with_reducible apply Grew.grow | with_reducible apply Grew.drew | with_reducible apply Grew.drewN))) (by rw [HLT.out]; simp [maxLen]; omega) (by rw [HLT.out]; simp; omega) ?_
        intro v1 W ho1 hg1
        rw [List.nil_append] at ho1
        have g1 : Grew W1 W := (show Grew W1 _ from (by repeat (first | with_reducible exact Grew.refl _ | with_reducible apply Grew.alloc | with_reducible apply Grew.grow | with_reducible apply Grew.drew | with_reducible apply Grew.drewN))).trans hg1
        have OW := Lib.hid (ho1.base (show w.heap.size ≤ _ from ((HG.out.trans GZ.out).trans (GW1.out.trans (by repeat (first | with_reducible exact Grew.refl _ | with_reducible apply Grew.alloc | with_reducible apply Grew.grow | with_reducible apply Grew.drew | with_reducible apply Grew.drewN)))).size))
        have GY := Lib.hid ((GZ.out.trans GW1.out).trans g1)
        have SH := Lib.hid (SH1.out.grew g1)
        refine wpList_nil_then ?_
        refine ⟨hg1, ?_⟩
        clear ho1 hg1 g1 SH1 GW1
        all_goals
          refine wpFlowX_esc 7 (by decide +kernel) (by kernel_rfl) (by decide +kernel) (by decide +kernel) ?_
          simp only [pickOps_cons, pickOps_nil, pick1_zero, pick1_succ]
          intro δf
          refine wpList_appendE2 Tot.cs_len (by decide) rfl _ _ _ rfl _ ii _ 72 under_ts hif hz hsz hby tot0_cells Tot.cs_one w _ w.heap.size _ _ rfl rfl (l.take n) [J0] ((HG.out.trans GY.out).grow _) (Nat.le_refl _) (by have := (HG.out.trans GY.out).size; simp; omega) (by exact OW.out.grew (by repeat (first | with_reducible exact Grew.refl _ | with_reducible apply Grew.alloc | with_reducible apply Grew.grow | with_reducible apply Grew.drew | with_reducible apply Grew.drewN))) (by exact SH.out.grew (by repeat (first | with_reducible exact Grew.refl _ | with_reducible apply Grew.alloc | with_reducible apply Grew.grow | with_reducible apply Grew.drew | with_reducible apply Grew.drewN))) (by rw [HLT.out]; simp [maxLen]; omega) (by rw [HLT.out]; simp; omega) ?_
          intro v2 W2 ho2 hg2
          have HO2 := Lib.hid ho2
          have HG2 := Lib.hid hg2
          clear ho2 hg2 GY OW SH
          refine wpList_nil_then ?_
          refine wpAny_one 8 (by decide +kernel) (by kernel_rfl) (by decide +kernel) ?_
          simp only [pickOps_cons, pickOps_nil, pick1_zero, pick1_succ]
          go_wp2_with (fail)
          refine wpAny_end (by decide +kernel) (by kernel_rfl) ?_
          go_wp2
          refine ⟨⟨l.take n ++ [J0], by simp, ?_, HAP.out, HO2.out, HG2.out⟩, ?_⟩
          · have := H1.out; have := H2.out; rw [List.length_append, HLT.out]; simp; omega
          · obtain ⟨q2, c2, hv2⟩ := ownT_len HO2.out
            rw [hv2, List.length_append, HLT.out]
            have := H1.out
            simp only [lenV, List.length_cons, List.length_nil]
            omega
end Go.Proofs.Ytnhcamklammcdaa
/- The document's Check. -/
namespace Go.Proofs.Ytnhcamklammcdaa
set_option linter.unusedVariables false
set_option linter.unusedSimpArgs false
open Go.RowKit
set_option maxRecDepth 100000
/-- What holds in the loop. -/
structure CkR (V : World) (wr : World) (x : Tot) (a : Wd) : Prop where
  px : wr.rowAt (V.heap.size + 1) = ta x.h.l x.w.n x.n
  fx : wr.rowFree (V.heap.size + 1) = true
  pa : wr.rowAt V.heap.size = wv a.n
  fa : wr.rowFree V.heap.size = true
  hg : V.heap.size + 1 < wr.heap.size
  gr : Grew V wr
theorem CkR.grew {V wr W : World} {x : Tot} {a : Wd} (h : CkR V wr x a) (k : Grew wr W) : CkR V W x a := by
  have h0 := h.hg; have hs := k.size
  exact ⟨by rw [Grew.rowAt k _ (by omega)]; exact h.px, by rw [Grew.rowFree k _ (by omega)]; exact h.fx, by rw [Grew.rowAt k _ (by omega)]; exact h.pa, by rw [Grew.rowFree k _ (by omega)]; exact h.fa, by omega, h.gr.trans k⟩
theorem CkR.setX {V wr : World} {x : Tot} {a : Wd} (h : CkR V wr x a) (y : Tot) : CkR V (wr.setRow (V.heap.size + 1) (ta y.h.l y.w.n y.n)) y a := by
  have h0 := h.hg
  have e : ∀ k, V.heap.size + 1 ≠ k → (wr.setRow (V.heap.size + 1) (ta y.h.l y.w.n y.n)).heap[k]? = wr.heap[k]? := fun k hk => World.heap_setRow_ne _ _ _ _ hk
  exact ⟨rowAt_setRow_free _ _ _ h.fx, rowFree_setRow_free _ _ _ h.fx, by rw [rowAt_of_heap (e _ (by omega))]; exact h.pa, by rw [rowFree_of_heap (e _ (by omega))]; exact h.fa, by rw [setRow_size]; exact h0, Grew.setRow_new h.gr _ _ (by omega)⟩
theorem CkR.setA {V wr : World} {x : Tot} {a : Wd} (h : CkR V wr x a) (b : Wd) : CkR V (wr.setRow V.heap.size (wv b.n)) x b := by
  have h0 := h.hg
  have e : ∀ k, V.heap.size ≠ k → (wr.setRow V.heap.size (wv b.n)).heap[k]? = wr.heap[k]? := fun k hk => World.heap_setRow_ne _ _ _ _ hk
  exact ⟨by rw [rowAt_of_heap (e _ (by omega))]; exact h.px, by rw [rowFree_of_heap (e _ (by omega))]; exact h.fx, rowAt_setRow_free _ _ _ h.fa, rowFree_setRow_free _ _ _ h.fa, by rw [setRow_size]; exact h0, Grew.setRow_new h.gr _ _ (by omega)⟩
theorem shows_cell {w : World} {b o n c : Nat} {xs : List Value} (h : Shows w (.slice (some ⟨b, o, none⟩) n c) xs) (j : Nat) (u : Value) (hj : xs[j]? = some u) : w.cell? ⟨b, o + j, none⟩ = some u := by
  rcases h with ⟨b', o', c', he, _, h⟩ | ⟨p, c', he, rfl⟩
  · simp only [Value.slice.injEq, Option.some.injEq, Addr.mk.injEq] at he
    obtain ⟨⟨rfl, rfl, _⟩, _, _⟩ := he
    exact h j u hj
  · simp at hj
theorem load_totWm {w : World} {b o : Nat} {y : Tot} (h : w.rangeAt b o y.cs) : (rowLoad 27 (.pointer (some ⟨b, o + 32, none⟩))).run Try.prog w = .ok (.value (.agg (wv y.w.n))) w := by
  refine load_partW (cs := (wv y.w.n).toList) rfl fun j v hj => ?_
  have hj2 : j < 4 := (List.getElem?_eq_some_iff.1 hj).1
  have h1 := h (32 + j) v (by
    unfold Tot.cs tl
    rw [List.getElem?_append_right (by rw [bys_len, y.h.len]; omega), bys_len, y.h.len, show 32 + j - 32 = j by omega, List.getElem?_append_left (by exact hj2)]
    exact hj)
  rwa [← Nat.add_assoc] at h1
theorem none_own (b : Nat) : (Value.slice none 0 0).ownBlock ≠ some b := by simp [Value.ownBlock]
theorem KeepsX.rangeAt {Z W : World} {v : Value} (h : KeepsX Z v W) {b o : Nat} {cs : List Value} (hn : v.ownBlock ≠ some b) (hc : Z.rangeAt b o cs) : W.rangeAt b o cs := fun j u hj => h.cell (hc j u hj) hn
set_option maxHeartbeats 6400000 in
theorem rcheckT_w (root : Tot) (i : Int) (leaf : Tot) (path : List Tot) (v : Value) (w : World) (hv : ShowsT w v path) (hp : path.length ≤ 1000000) :
    Calls Try.prog 16 #[.agg (ta root.h.l root.w.n root.n), .int .i64 i, .agg (ta leaf.h.l leaf.w.n leaf.n), v] w fun e w' => e = .returned (chkV (chkO root i leaf path)) ∧ Grew w w' := by
  obtain ⟨p, c, rfl⟩ := showsT_form hv
  have HV := Lib.hid hv
  clear hv
  have hrl := root.h.len
  have hll := leaf.h.len
  obtain ⟨rn, hrn⟩ : ∃ rn, root.n = rn := ⟨_, rfl⟩
  obtain ⟨ln, hln⟩ : ∃ ln, leaf.n = ln := ⟨_, rfl⟩
  by_cases h1 : rn < 1
  · have HC := Lib.hid (chkO_no (root := root) (i := i) (leaf := leaf) path (by omega))
    rw [hrn, hln]
    clear hrn hln
    go_enter Try.func16, Try.ntmps16
    go_wp2
    exact bodyPost_ret (v := chkV none) (results_wide_bool none rfl _ rfl rfl (by rw [wd_none]; simp [go_sem])) rfl ⟨by rw [HC.out], (by repeat (first | with_reducible exact Grew.refl _ | with_reducible apply Grew.alloc | with_reducible apply Grew.grow | with_reducible apply Grew.drew | with_reducible apply Grew.drewN))⟩
  by_cases h2 : 64 < rn
  · have HC := Lib.hid (chkO_no (root := root) (i := i) (leaf := leaf) path (by omega))
    rw [hrn, hln]
    clear hrn hln
    go_enter Try.func16, Try.ntmps16
    go_wp2
    exact bodyPost_ret (v := chkV none) (results_wide_bool none rfl _ rfl rfl (by rw [wd_none]; simp [go_sem])) rfl ⟨by rw [HC.out], (by repeat (first | with_reducible exact Grew.refl _ | with_reducible apply Grew.alloc | with_reducible apply Grew.grow | with_reducible apply Grew.drew | with_reducible apply Grew.drewN))⟩
  by_cases h3 : i < 0
  · have HC := Lib.hid (chkO_no (root := root) (i := i) (leaf := leaf) path (by omega))
    rw [hrn, hln]
    clear hrn hln
    go_enter Try.func16, Try.ntmps16
    go_wp2
    exact bodyPost_ret (v := chkV none) (results_wide_bool none rfl _ rfl rfl (by rw [wd_none]; simp [go_sem])) rfl ⟨by rw [HC.out], (by repeat (first | with_reducible exact Grew.refl _ | with_reducible apply Grew.alloc | with_reducible apply Grew.grow | with_reducible apply Grew.drew | with_reducible apply Grew.drewN))⟩
  by_cases h4 : rn ≤ i
  · have HC := Lib.hid (chkO_no (root := root) (i := i) (leaf := leaf) path (by omega))
    rw [hrn, hln]
    clear hrn hln
    go_enter Try.func16, Try.ntmps16
    go_wp2
    exact bodyPost_ret (v := chkV none) (results_wide_bool none rfl _ rfl rfl (by rw [wd_none]; simp [go_sem])) rfl ⟨by rw [HC.out], (by repeat (first | with_reducible exact Grew.refl _ | with_reducible apply Grew.alloc | with_reducible apply Grew.grow | with_reducible apply Grew.drew | with_reducible apply Grew.drewN))⟩
  by_cases h5 : ln = 1
  rotate_left
  · have HC := Lib.hid (chkO_no (root := root) (i := i) (leaf := leaf) path (by omega))
    have h5' : (ln == 1) = false := by simpa using h5
    rw [hrn, hln]
    clear hrn hln
    go_enter Try.func16, Try.ntmps16
    go_wp2
    exact bodyPost_ret (v := chkV none) (results_wide_bool none rfl _ rfl rfl (by rw [wd_none]; simp [go_sem])) rfl ⟨by rw [HC.out], (by repeat (first | with_reducible exact Grew.refl _ | with_reducible apply Grew.alloc | with_reducible apply Grew.grow | with_reducible apply Grew.drew | with_reducible apply Grew.drewN))⟩
  subst h5
  obtain ⟨N, rfl⟩ : ∃ N : Nat, rn = (N : Int) := ⟨rn.toNat, by omega⟩
  obtain ⟨j, rfl⟩ : ∃ j : Nat, i = (j : Int) := ⟨i.toNat, by omega⟩
  have hin : chkIn root j leaf = true := decide_eq_true ⟨by omega, by omega, by omega, by omega, hln⟩
  have hsd := fun W => rsides_w N N j (Nat.le_refl _) (by omega) (by omega) (by omega) W
  have hsz := fun W => rsizes_w N N j (Nat.le_refl _) (by omega) (by omega) (by omega) W
  have hsl := stps_len N j (by omega)
  have hco : chkO root j leaf path = if (stps N j).length = path.length then (climbT (stps N j) path (some (leaf, Wd.zero))).bind fun p => if Tot.eq p.1 root = true then some p.2 else none else none := by
    unfold chkO
    rw [hin, hrn]
    simp
  obtain ⟨hs1, hs2⟩ := stps_side N j (by omega)
  rw [hs1] at hsd
  rw [hs2] at hsz
  obtain ⟨L, hL⟩ : ∃ L, stps N j = L := ⟨_, rfl⟩
  rw [hL] at hsd hsz hsl hco
  obtain ⟨R, hR⟩ : ∃ R, chkO root j leaf path = R := ⟨_, rfl⟩
  rw [hR] at hco ⊢
  have HSD := Lib.hid hsd
  have HSZ := Lib.hid hsz
  have HCO := Lib.hid hco
  have hLN : (L.length : Int) ≤ 64 := by omega
  obtain ⟨M, hM⟩ : ∃ M, L.length = M := ⟨_, rfl⟩
  obtain ⟨Q, hQ⟩ : ∃ Q, path.length = Q := ⟨_, rfl⟩
  have HM := Lib.hid hM
  have HQ := Lib.hid hQ
  rw [hM] at hLN
  rw [hQ] at HV hp ⊢
  have hQI : (Q : Int) ≤ 1000000 := by omega
  have a1 : ¬ ((N : Int) < 1) := by omega
  have a2 : ¬ ((64 : Int) < (N : Int)) := by omega
  have a4 : ¬ ((N : Int) ≤ (j : Int)) := by omega
  have HRN := Lib.hid hrn
  have HLN := Lib.hid hln
  rw [hrn, hln]
  clear hsd hsz hco hL hR hM hQ hin hrn hln h1 h2 h3 h4 hsl hp hs1 hs2
  by_cases hMQ : M = Q
  rotate_left
  · have hn1 : ((Q : Int) == (M : Int)) = false := by simp; omega
    have hn2 : ¬ ((Q : Int) = (M : Int)) := by omega
    have hR : R = none := by rw [HCO.out, HM.out, HQ.out, if_neg hMQ]
    have HR := Lib.hid hR
    clear hR hMQ
    go_enter Try.func16, Try.ntmps16
    go_wp2_with (first | (go_at_call 34; refine (HSD.out _).mono ?_; rintro e A ⟨v1, rfl, ho, hg⟩; obtain ⟨q1, c1, rfl⟩ := shows_form ho.shows; obtain ⟨p0, p1, f1, p2, f2, lt2, hgw⟩ := ck_pre hrl hll hg; have HO := Lib.hid ho.shows; have HG := Lib.hid hgw; have lt0 : w.heap.size < A.heap.size := Nat.lt_of_succ_lt (Nat.lt_of_succ_lt lt2); have c0 : A.cell? ⟨w.heap.size, 36, none⟩ = some (.int .i64 N) := (by rw [cell_rowAt, p0]; exact ta_n _ _ _ hrl); clear ho hg hgw; rw [bvs_len, List.length_map, HM.out] at HO ⊢) | (go_at_call 35; refine (HSZ.out _).mono ?_; rintro e A2 ⟨v2, rfl, ho2, hg2⟩; obtain ⟨q2, c2, rfl⟩ := shows_form ho2.shows; have HO2 := Lib.hid ho2.shows; have HG2 := Lib.hid hg2; have f22 : A2.rowFree (w.heap.size + 1 + 1) = true := (by rw [Grew.rowFree hg2 _ lt2]; exact f2); have s22 : (A2.rowAt (w.heap.size + 1 + 1)).size = 4 := (by rw [Grew.rowAt hg2 _ lt2, p2]; rfl); have lt22 := Nat.lt_of_lt_of_le lt2 hg2.size; clear ho2 hg2; rw [ivs_len, List.length_map, HM.out] at HO2 ⊢))
    refine bodyPost_ret (v := chkV none) (results_wide_bool none rfl _ rfl rfl (by rw [wd_none]; simp [go_sem, f22, lt22])) rfl ⟨by rw [HR.out], Grew.setRow_new (HG.out.trans HG2.out) _ _ (by omega)⟩
  · subst hMQ
    have hn1 : ((M : Int) == (M : Int)) = true := by simp
    have hll2 : L.length = path.length := by rw [HM.out, HQ.out]
    have HLL := Lib.hid hll2
    have hR : R = (climbK L path leaf M).bind fun p => if Tot.eq p.1 root = true then some p.2 else none := by
      rw [HCO.out, if_pos hll2, ← HM.out, climbK_all L path leaf hll2]
    have HR := Lib.hid hR
    have hcn := fun k => climbK_none L path leaf hll2 k
    have HCN := Lib.hid hcn
    clear hR hcn hll2 HCO
    go_enter Try.func16, Try.ntmps16
    go_wp2_with (first | (go_at_call 34; refine (HSD.out _).mono ?_; rintro e A ⟨v1, rfl, ho, hg⟩; obtain ⟨q1, c1, rfl⟩ := shows_form ho.shows; obtain ⟨p0, p1, f1, p2, f2, lt2, hgw⟩ := ck_pre hrl hll hg; have HO := Lib.hid ho.shows; have HG := Lib.hid hgw; have lt0 : w.heap.size < A.heap.size := Nat.lt_of_succ_lt (Nat.lt_of_succ_lt lt2); have c0 : A.cell? ⟨w.heap.size, 36, none⟩ = some (.int .i64 N) := (by rw [cell_rowAt, p0]; exact ta_n _ _ _ hrl); clear ho hg hgw; rw [bvs_len, List.length_map, HM.out] at HO ⊢) | (go_at_call 35; refine (HSZ.out _).mono ?_; rintro e A2 ⟨v2, rfl, ho2, hg2⟩; obtain ⟨q2, c2, rfl⟩ := shows_form ho2.shows; have HO2 := Lib.hid ho2.shows; have HG2 := Lib.hid hg2; have p12 : A2.rowAt (w.heap.size + 1) = ta leaf.h.l leaf.w.n 1 := (by rw [Grew.rowAt hg2 _ (Nat.lt_of_succ_lt lt2)]; exact p1); have p02 : A2.rowAt w.heap.size = ta root.h.l root.w.n N := (by rw [Grew.rowAt hg2 _ lt0]; exact p0); have lt12 : w.heap.size + 1 < A2.heap.size := Nat.lt_of_lt_of_le (Nat.lt_of_succ_lt lt2) hg2.size; have f22 : A2.rowFree (w.heap.size + 1 + 1) = true := (by rw [Grew.rowFree hg2 _ lt2]; exact f2); have s22 : (A2.rowAt (w.heap.size + 1 + 1)).size = 4 := (by rw [Grew.rowAt hg2 _ lt2, p2]; rfl); have lt22 := Nat.lt_of_lt_of_le lt2 hg2.size; have p22 : A2.rowAt (w.heap.size + 1 + 1) = wv 0 := (by rw [Grew.rowAt hg2 _ lt2]; exact p2); clear ho2 hg2; rw [ivs_len, List.length_map, HM.out] at HO2 ⊢))
    refine code_abs ?_
    intro W0 hW0
    have ck0 : CkR A2 W0 leaf Wd.zero := by
      have hln := HLN.out
      refine ⟨?_, ?_, ?_, ?_, ?_, ?_⟩
      · rw [hW0, hln]; simp [go_sem]
      · rw [hW0]; simp [go_sem]
      · rw [hW0]; simp [go_sem]; rfl
      · rw [hW0]; simp [go_sem]
      · rw [hW0]; simp
      · rw [hW0]; exact (by repeat (first | with_reducible exact Grew.refl _ | with_reducible apply Grew.alloc | with_reducible apply Grew.grow | with_reducible apply Grew.drew | with_reducible apply Grew.drewN))
    have p02' : A2.rowAt w.heap.size = ta root.h.l root.w.n root.n := by rw [HRN.out]; exact p02
    have HP := Lib.hid (And.intro p02' (And.intro p22 (And.intro f22 (Nat.lt_of_succ_lt lt12))))
    have HLT := Lib.hid lt22
    have CK0 := Lib.hid ck0
    have HG3 := Lib.hid (HG.out.trans HG2.out)
    have HO3 := Lib.hid (HO.out.grew HG2.out)
    clear ck0 hW0 p0 p1 f1 p2 f2 lt2 lt0 c0 p12 p02 p02' lt12 f22 s22 lt22 p22 HO HG HG2 HSD HSZ
    go_loopw [14] (fun n wr => ∃ (k : Nat) (x : Tot) (a : Wd), k ≤ M ∧ n = .int .i64 k ∧ climbK L path leaf k = some (x, a) ∧ CkR A2 wr x a) (fun n _ => M - (intOf n).toNat)
    case atStart => exact ⟨0, leaf, Wd.zero, by omega, rfl, climbK_0 _ _ _, CK0.out⟩
    case round =>
      obtain ⟨k, x, a, hk, rfl, hcl, hck⟩ := hrel
      have HCK := Lib.hid hck
      have HCL := Lib.hid hcl
      obtain ⟨px, fx, pa, fa, hg, -⟩ := hck
      have hxl := x.h.len
      clear CK0 hcl
      by_cases hn : k < M
      · have hlt : (k : Int) < (M : Int) := by omega
        obtain ⟨s, hs⟩ : ∃ s, L[k]? = some s := ⟨_, List.getElem?_eq_getElem (by rw [HM.out]; exact hn)⟩
        obtain ⟨y, hy⟩ : ∃ y, path[k]? = some y := ⟨_, List.getElem?_eq_getElem (by rw [HQ.out]; exact hn)⟩
        have hstep := climbK_step L path leaf k s y HLL.out hs hy
        rw [HCL.out] at hstep
        have hstep2 : climbK L path leaf (k + 1) = climb1 s y (x, a) := hstep
        have HSTEP := Lib.hid hstep2
        obtain ⟨sn, hsn⟩ : ∃ sn, s.n = sn := ⟨_, rfl⟩
        obtain ⟨sl, hsl⟩ : ∃ sl, s.l = sl := ⟨_, rfl⟩
        have HSN := Lib.hid (And.intro hsn hsl)
        have hb1 : (bvs (L.map fun s => if s.l = true then 0 else 1))[k]? = some (.bool sl) := by
          unfold bvs
          rw [List.getElem?_map, List.getElem?_map, hs, ← hsl, Option.map_some, Option.map_some]
          cases hh : s.l <;> simp
        have hb2 : (ivs (L.map (·.n)))[k]? = some (.int .i64 sn) := by
          unfold ivs
          rw [List.getElem?_map, List.getElem?_map, hs, ← hsn]
          rfl
        have ho1 := HO3.out
        have ho2 := HO2.out
        rcases ho1 with ⟨s1b, s1o, s1c, he, s1l, _⟩ | ⟨_, _, he, hnil⟩
        case inr => rw [hnil] at hb1; simp at hb1
        rcases ho2 with ⟨s2b, s2o, s2c, he2, s2l, _⟩ | ⟨_, _, he2, hnil⟩
        case inr => rw [hnil] at hb2; simp at hb2
        simp only [Value.slice.injEq] at he he2
        obtain ⟨rfl, -, rfl⟩ := he
        obtain ⟨rfl, -, rfl⟩ := he2
        have cs1 := HCK.out.gr.cell (shows_cell HO3.out k _ hb1)
        have cs2 := HCK.out.gr.cell (shows_cell HO2.out k _ hb2)
        have hvv := HV.out
        rw [← HQ.out] at hvv
        obtain ⟨b, o, rfl, _, hcc, hb, hat⟩ := showsT_some hvv (by rw [HQ.out]; omega)
        have hgw := HG3.out.trans HCK.out.gr
        have hbw : b < wr.heap.size := Nat.lt_of_lt_of_le hb hgw.size
        have HRW := Lib.hid (hat k y hy)
        have HBW := Lib.hid hb
        have hr := rangeAt_grew (hat k y hy) hgw
        have cn := range_n hr
        have ldt : ∀ δ, (rowLoad 29 (.pointer (some ⟨b, o + k * 37, none⟩))).run Try.prog (wr.grow δ) = .ok (.value (.agg (ta y.h.l y.w.n y.n))) (wr.grow δ) := load_totg hr
        have HR3 := Lib.hid hr
        have hyl := y.h.len
        have hadd := fun W => radd_w x.w y.w W
        have HADD := Lib.hid hadd
        have kb : (k : Int) ≤ 64 := by omega
        have HK := Lib.hid hn
        have s1lt : s1b < wr.heap.size := Nat.lt_of_lt_of_le s1l HCK.out.gr.size
        have s2lt : s2b < wr.heap.size := Nat.lt_of_lt_of_le s2l HCK.out.gr.size
        have hg1 : A2.heap.size < wr.heap.size := Nat.lt_of_succ_lt hg
        clear hs hy hstep hstep2 hcc hvv hadd hsn hsl hn hb hat hgw hr hb1 hb2 s1l s2l
        have HCG := Lib.hid (KeepsX.grew wr (.slice none 0 0))
        have HC0 := Lib.hid (KeepsX.refl wr (.slice none 0 0))
        have nb1 := none_own (A2.heap.size + 1)
        have nb2 := none_own b
        go_wp2
        refine wp_region_flowC (KeepsX wr (.slice none 0 0)) HCG.out HC0.out (by kernel_rfl) ?_
        intro δf
        apply wpFlowC_quiets [0,1,2,3,4,5,6,7,8,9,10] HCG.out ⟨_, HC0.out⟩ (by decide +kernel) (by decide +kernel) (by kernel_rfl) (by intro _ _ _ d _ h; cases d <;> exact h) _
        · intro A hA Y hY
          (have dx := (KeepsX.rowAt hY hg nb1).trans px; have lx : A2.heap.size + 1 < Y.heap.size := Nat.lt_of_lt_of_le hg hY.1; have ldw : ∀ n, (rowLoad 27 (.pointer (some ⟨b, o + k * 37 + 32, none⟩))).run Try.prog (Y.grow n) = .ok (.value (.agg (wv y.w.n))) (Y.grow n) := fun n => load_totWm (rangeAt_grew (KeepsX.rangeAt hY nb2 HR3.out) ⟨n, rfl⟩))
          simp only [pickOps_cons, pickOps_nil, pick1_zero, pick1_succ]
          repeat (go_big_quiet_step ((go_at_call 36; exact Calls.pure_of (HADD.out _))))
          exact wpQuiet_nil hA.out.symm
        refine flowC_abs ?_
        intro V hV
        have gV : Grew wr V := by rw [hV]; exact (by repeat (first | with_reducible exact Grew.refl _ | with_reducible apply Grew.alloc | with_reducible apply Grew.grow | with_reducible apply Grew.drew | with_reducible apply Grew.drewN))
        have GV := Lib.hid gV
        have zV := gV.size
        clear hV gV
        refine wpFlowC_one 11 (by decide +kernel) (by kernel_rfl) (by kernel_rfl) ?_
        unfold wpFlowCS
        simp only [pickOps_cons, pickOps_nil, pick1_zero, pick1_succ]
        intro δf hCf
        go_wp2_with (fail)
        refine ⟨(by first | assumption | exact HCG.out _ _ hCf (by assumption) | (refine HCG.out _ _ hCf ?_; simp only [grow_grow]; exact (by repeat (first | with_reducible exact Grew.refl _ | with_reducible apply Grew.alloc | with_reducible apply Grew.grow | with_reducible apply Grew.drew | with_reducible apply Grew.drewN))) | exact HCG.out _ _ hCf (by repeat (first | with_reducible exact Grew.refl _ | with_reducible apply Grew.alloc | with_reducible apply Grew.grow | with_reducible apply Grew.drew | with_reducible apply Grew.drewN))), ?_⟩
        refine flowC_abs ?_
        intro W1 hW
        have q1 : W1.rowAt (V.heap.size + δf.n) = wv 0 := by rw [hW]; simp [go_sem]
        have q2 : W1.rowFree (V.heap.size + δf.n) = true := by rw [hW]; simp [go_sem]
        have q3 : V.heap.size + δf.n < W1.heap.size := by rw [hW]; simp
        have gW1 : Grew V W1 := by rw [hW]; exact (by repeat (first | with_reducible exact Grew.refl _ | with_reducible apply Grew.alloc | with_reducible apply Grew.grow | with_reducible apply Grew.drew | with_reducible apply Grew.drewN))
        obtain ⟨b15, hb15⟩ : ∃ b15, V.heap.size + δf.n = b15 := ⟨_, rfl⟩
        have zb : wr.heap.size ≤ b15 := by omega
        have GW1 := Lib.hid (GV.out.trans gW1)
        rw [hb15] at q1 q2 q3 ⊢
        clear hW gW1 hb15
        refine wpFlowC_one 12 (by decide +kernel) (by kernel_rfl) (by kernel_rfl) ?_
        unfold wpFlowCS
        simp only [pickOps_cons, pickOps_nil, pick1_zero, pick1_succ]
        intro δf hCf
        go_wp2
        have kW2 := KeepsX.setRow (KeepsX.grew _ _ _ _ HC0.out GW1.out) b15 (wv (x.w.add y.w).n) zb
        refine ⟨KeepsX.grew _ _ _ _ kW2 ⟨δf, rfl⟩, ?_⟩
        refine flowC_abs ?_
        intro W2 hW
        have gW2 : Grew wr W2 := by rw [hW]; exact (Grew.setRow_new GW1.out _ _ zb).grow _
        have GW2 := Lib.hid gW2
        clear hW gW2 kW2 q1 q2 q3 zb hCf GW1 GV
        apply wpFlowC_quiets [13] HCG.out ⟨_, HC0.out⟩ (by decide +kernel) (by decide +kernel) (by kernel_rfl) (by intro _ _ _ d _ h; cases d <;> exact h) _
        · intro A hA Y hY
          simp only [pickOps_cons, pickOps_nil, pick1_zero, pick1_succ]
          repeat (go_big_quiet_step ((fail)))
          exact wpQuiet_nil hA.out.symm
        refine wpFlowC_end (by decide +kernel) (by kernel_rfl) ?_
        intro δf hCf
        refine exit_abs ?_
        intro V2 hV
        have gV2 : Grew wr V2 := by rw [hV]; exact GW2.out.trans (by repeat (first | with_reducible exact Grew.refl _ | with_reducible apply Grew.alloc | with_reducible apply Grew.grow | with_reducible apply Grew.drew | with_reducible apply Grew.drewN))
        have HCK2 := Lib.hid (HCK.out.grew gV2)
        obtain ⟨px', fx', pa', fa', hg', gr'⟩ := HCK.out.grew gV2
        have GR2 := Lib.hid gr'
        have cs1' := gV2.cell cs1
        have cs2' := gV2.cell cs2
        have cn' := gV2.cell cn
        have hr2 := rangeAt_grew HR3.out gV2
        have ldt' : ∀ δ, (rowLoad 29 (.pointer (some ⟨b, o + k * 37, none⟩))).run Try.prog (V2.grow δ) = .ok (.value (.agg (ta y.h.l y.w.n y.n))) (V2.grow δ) := load_totg hr2
        have HR4 := Lib.hid hr2
        have hbw' : b < V2.heap.size := Nat.lt_of_lt_of_le hbw gV2.size
        have s1lt' : s1b < V2.heap.size := Nat.lt_of_lt_of_le s1lt gV2.size
        have s2lt' : s2b < V2.heap.size := Nat.lt_of_lt_of_le s2lt gV2.size
        have hg1' : A2.heap.size < V2.heap.size := Nat.lt_of_succ_lt hg'
        clear hV gV2 gr' hr2 px fx pa fa hg cs1 cs2 cn ldt hbw s1lt s2lt hg1 HCG HC0 nb1 hCf HCK HR3 GW2
        by_cases hcon : x.w.addOk y.w = true ∧ y.n = (sn : Int)
        · obtain ⟨hok, hyn⟩ := hcon
          have q1 : decide (y.n = (sn : Int)) = true := decide_eq_true hyn
          have q2 : (y.n == (sn : Int)) = true := by simpa using hyn
          have q3 : (y.n != (sn : Int)) = false := by simpa using hyn
          have hnx : climbK L path leaf (k + 1) = if sl = true then some (Tot.join x y, a) else some (Tot.join y x, a.add y.w) := by
            rw [HSTEP.out]
            unfold climb1
            rw [if_pos ⟨hok, by rw [HSN.out.1]; exact hyn⟩, HSN.out.2]
          have HNX := Lib.hid hnx
          clear hnx hyn
          go_wp2
          first | refine wp_region_pure_lit_g (by kernel_rfl) (by kernel_rfl) ?_ | refine wp_region_pure_lit (by kernel_rfl) (by kernel_rfl) ?_
          repeat (go_big_quiet_step ((fail)))
          refine wpQuiet_nil ?_
          intro _ hw'
          obtain ⟨δ1, hw''⟩ := hw'
          subst hw''
          cases sl
          · have hadd2 := fun W => radd_w a y.w W
            have HADD2 := Lib.hid hadd2
            have jw := fun W => rjoin_w y x W
            unfold Tot.v at jw
            have JW := Lib.hid jw
            clear hadd2 jw
            go_wp2
            refine wp_region_flowX [10] (by kernel_rfl) ?_
            intro δf
            refine flowX_abs ?_
            intro Y hY
            have gY : Grew V2 Y := by rw [hY]; exact (by repeat (first | with_reducible exact Grew.refl _ | with_reducible apply Grew.alloc | with_reducible apply Grew.grow | with_reducible apply Grew.drew | with_reducible apply Grew.drewN))
            have ldw : ∀ n, (rowLoad 27 (.pointer (some ⟨b, o + k * 37 + 32, none⟩))).run Try.prog (Y.grow n) = .ok (.value (.agg (wv y.w.n))) (Y.grow n) := fun n => load_totWm (rangeAt_grew (rangeAt_grew HR4.out gY) ⟨n, rfl⟩)
            have HCK3 := Lib.hid (HCK2.out.grew gY)
            obtain ⟨px2, fx2, pa2, fa2, hg2, -⟩ := HCK2.out.grew gY
            have hbY : b < Y.heap.size := Nat.lt_of_lt_of_le hbw' gY.size
            have hgY : A2.heap.size < Y.heap.size := Nat.lt_of_succ_lt hg2
            have hr5 := rangeAt_grew HR4.out gY
            have HR5 := Lib.hid hr5
            clear hY gY px' fx' pa' fa' hg' cs1' cs2' cn' ldt' hbw' s1lt' s2lt' hg1' hr5 HCK2 HR4 GR2
            apply wpFlowX_quiets [0,1,2,3,4,5] (by decide +kernel) (by decide +kernel) (by kernel_rfl) (by intro _ _ _ d _ h; cases d <;> exact h) _
            · intro A hA δ'
              simp only [pickOps_cons, pickOps_nil, pick1_zero, pick1_succ]
              repeat (go_big_quiet_step ((fail)))
              exact wpQuiet_nil hA.out.symm
            apply wpFlowX_quiets [6] (by decide +kernel) (by decide +kernel) (by kernel_rfl) (by intro _ _ _ d _ h; cases d <;> exact h) _
            · intro A hA δ'
              simp only [pickOps_cons, pickOps_nil, pick1_zero, pick1_succ]
              repeat (go_big_quiet_step ((go_at_call 36; (with_reducible first | exact Calls.pure_of_g3 (HADD2.out _) | exact Calls.pure_of_g4 (HADD2.out _) | exact Calls.pure_of_g (HADD2.out _) | exact Calls.pure_of_g5 (HADD2.out _)))))
              exact wpQuiet_nil hA.out.symm
            apply wpFlowX_quiets [7,8] (by decide +kernel) (by decide +kernel) (by kernel_rfl) (by intro _ _ _ d _ h; cases d <;> exact h) _
            · intro A hA δ'
              simp only [pickOps_cons, pickOps_nil, pick1_zero, pick1_succ]
              repeat (go_big_quiet_step ((fail)))
              exact wpQuiet_nil hA.out.symm
            refine wpFlowX_twoE 9 10 (by decide +kernel) (by first | (left; kernel_rfl) | (right; kernel_rfl)) (by decide +kernel) (by decide +kernel) (by decide +kernel) ?_ ?_
            unfold wpFlowXS
            simp only [pickOps_cons, pickOps_nil, pick1_zero, pick1_succ]
            intro δf
            go_wp2_with (fail)
            refine ⟨(by first | assumption | (simp only [grow_grow, Array.append_assoc]; assumption) | exact Grew.refl _ | (simp only [grow_grow, Array.append_assoc]; exact (by repeat (first | with_reducible exact Grew.refl _ | with_reducible apply Grew.alloc | with_reducible apply Grew.grow | with_reducible apply Grew.drew | with_reducible apply Grew.drewN))) | exact (by repeat (first | with_reducible exact Grew.refl _ | with_reducible apply Grew.alloc | with_reducible apply Grew.grow | with_reducible apply Grew.drew | with_reducible apply Grew.drewN))), ?_⟩
            refine wpFlowX_esc 10 (by decide +kernel) (by kernel_rfl) (by decide +kernel) (by decide +kernel) ?_
            simp only [pickOps_cons, pickOps_nil, pick1_zero, pick1_succ]
            intro δf
            go_wp2
            refine wpAny_end (by decide +kernel) (by kernel_rfl) ?_
            rotate_left
            simp only [pickOps_cons, pickOps_nil, pick1_zero, pick1_succ]
            intro δf
            go_wp2
            refine wpAny_one 9 (by decide +kernel) (by kernel_rfl) (by decide +kernel) ?_
            simp only [pickOps_cons, pickOps_nil, pick1_zero, pick1_succ]
            go_wp2_with (fail)
            refine wpAny_end (by decide +kernel) (by kernel_rfl) ?_
            all_goals
              go_wp2
              refine code_abs ?_
              intro Z hZ
              have hz : CkR A2 Z x (a.add y.w) := by rw [hZ]; exact (HCK3.out.setA _).grew (by repeat (first | with_reducible exact Grew.refl _ | with_reducible apply Grew.alloc | with_reducible apply Grew.grow | with_reducible apply Grew.drew | with_reducible apply Grew.drewN))
              have HZ := Lib.hid hz
              obtain ⟨px3, fx3, -, -, hg3, gz⟩ := hz
              have hbZ : b < Z.heap.size := Nat.lt_of_lt_of_le HBW.out (HG3.out.trans gz).size
              have ldz : ∀ δ, (rowLoad 29 (.pointer (some ⟨b, o + k * 37, none⟩))).run Try.prog (Z.grow δ) = .ok (.value (.agg (ta y.h.l y.w.n y.n))) (Z.grow δ) := load_totg (rangeAt_grew HRW.out (HG3.out.trans gz))
              have hj := (Tot.join y x).h.len
              clear hZ gz px2 fx2 pa2 fa2 hg2 hgY hbY ldw HR5 HCK3
              refine wp_region_flowX [6] (by kernel_rfl) ?_
              intro δf
              apply wpFlowX_quiets [0,1,2,3,4] (by decide +kernel) (by decide +kernel) (by kernel_rfl) (by intro _ _ _ d _ h; cases d <;> exact h) _
              · intro A hA δ'
                simp only [pickOps_cons, pickOps_nil, pick1_zero, pick1_succ]
                repeat (go_big_quiet_step ((fail)))
                exact wpQuiet_nil hA.out.symm
              apply wpFlowX_quiets [5] (by decide +kernel) (by decide +kernel) (by kernel_rfl) (by intro _ _ _ d _ h; cases d <;> exact h) _
              · intro A hA δ'
                simp only [pickOps_cons, pickOps_nil, pick1_zero, pick1_succ]
                repeat (go_big_quiet_step ((go_at_call 21; (with_reducible first | exact Calls.pure_of_g3 (JW.out _) | exact Calls.pure_of_g4 (JW.out _) | exact Calls.pure_of_g (JW.out _) | exact Calls.pure_of_g5 (JW.out _)))))
                exact wpQuiet_nil hA.out.symm
              refine wpFlowX_esc 6 (by decide +kernel) (by kernel_rfl) (by decide +kernel) (by decide +kernel) ?_
              simp only [pickOps_cons, pickOps_nil, pick1_zero, pick1_succ]
              intro δf
              go_wp2
              refine wpAny_end (by decide +kernel) (by kernel_rfl) ?_
              go_wp2
              refine ⟨⟨k + 1, y.join x, a.add y.w, by have := HK.out; omega, by go_num, ?_, (HZ.out.setX _).grew (by repeat (first | with_reducible exact Grew.refl _ | with_reducible apply Grew.alloc | with_reducible apply Grew.grow | with_reducible apply Grew.drew | with_reducible apply Grew.drewN))⟩, by have := HK.out; simp only [intOf]; omega⟩
              rw [HNX.out]
              rfl
          · have jw := fun W => rjoin_w x y W
            have hj := (Tot.join x y).h.len
            unfold Tot.v at jw
            have JW := Lib.hid jw
            clear jw
            go_wp2
            refine wp_region_flowX [6] (by kernel_rfl) ?_
            intro δf
            apply wpFlowX_quiets [0,1,2,3,4] (by decide +kernel) (by decide +kernel) (by kernel_rfl) (by intro _ _ _ d _ h; cases d <;> exact h) _
            · intro A hA δ'
              simp only [pickOps_cons, pickOps_nil, pick1_zero, pick1_succ]
              repeat (go_big_quiet_step ((fail)))
              exact wpQuiet_nil hA.out.symm
            apply wpFlowX_quiets [5] (by decide +kernel) (by decide +kernel) (by kernel_rfl) (by intro _ _ _ d _ h; cases d <;> exact h) _
            · intro A hA δ'
              simp only [pickOps_cons, pickOps_nil, pick1_zero, pick1_succ]
              repeat (go_big_quiet_step ((go_at_call 21; (with_reducible first | exact Calls.pure_of_g3 (JW.out _) | exact Calls.pure_of_g4 (JW.out _) | exact Calls.pure_of_g (JW.out _) | exact Calls.pure_of_g5 (JW.out _)))))
              exact wpQuiet_nil hA.out.symm
            refine wpFlowX_esc 6 (by decide +kernel) (by kernel_rfl) (by decide +kernel) (by decide +kernel) ?_
            simp only [pickOps_cons, pickOps_nil, pick1_zero, pick1_succ]
            intro δf
            go_wp2
            refine wpAny_end (by decide +kernel) (by kernel_rfl) ?_
            go_wp2
            refine ⟨⟨k + 1, x.join y, a, by have := HK.out; omega, by go_num, ?_, (HCK2.out.setX _).grew (by repeat (first | with_reducible exact Grew.refl _ | with_reducible apply Grew.alloc | with_reducible apply Grew.grow | with_reducible apply Grew.drew | with_reducible apply Grew.drewN))⟩, by have := HK.out; simp only [intOf]; omega⟩
            rw [HNX.out]
            rfl
        · have hnx : climbK L path leaf (k + 1) = none := by
            rw [HSTEP.out]
            unfold climb1
            rw [if_neg (by rw [HSN.out.1]; exact hcon)]
          have hR : R = none := by
            rw [HR.out, HCN.out (k + 1) hnx M HK.out (by rw [HM.out]; exact Nat.le_refl _)]
            rfl
          have HR2 := Lib.hid hR
          have gA : Grew A2 V2 := GR2.out
          obtain ⟨-, t2, t3, -⟩ := HP.out
          have r2 : V2.rowAt (w.heap.size + 1 + 1) = wv 0 := by rw [Grew.rowAt gA _ HLT.out]; exact t2
          have f2 : V2.rowFree (w.heap.size + 1 + 1) = true := by rw [Grew.rowFree gA _ HLT.out]; exact t3
          have l2 : w.heap.size + 1 + 1 < V2.heap.size := Nat.lt_of_lt_of_le HLT.out gA.size
          clear hnx hR gA t2 t3
          by_cases hyn : y.n = (sn : Int)
          · have hok : x.w.addOk y.w = false := by
              cases h : x.w.addOk y.w
              · rfl
              · exact absurd ⟨h, hyn⟩ hcon
            have q1 : decide (y.n = (sn : Int)) = true := decide_eq_true hyn
            have q2 : (y.n == (sn : Int)) = true := by simpa using hyn
            have q3 : (y.n != (sn : Int)) = false := by simpa using hyn
            clear hcon hyn
            go_wp2
            first | refine wp_region_pure_lit_g (by kernel_rfl) (by kernel_rfl) ?_ | refine wp_region_pure_lit (by kernel_rfl) (by kernel_rfl) ?_
            repeat (go_big_quiet_step ((fail)))
            refine wpQuiet_nil ?_
            intro _ hw'
            obtain ⟨δ1, hw''⟩ := hw'
            subst hw''
            go_wp2
            refine bodyPost_ret (v := chkV none) (results_wide_bool none rfl _ rfl rfl (by rw [wd_none]; simp [go_sem, f2, l2])) rfl ⟨by rw [HR2.out], (Grew.setRow_new (HG3.out.trans GR2.out) _ _ (Nat.le_succ_of_le (Nat.le_succ _))).trans (by repeat (first | with_reducible exact Grew.refl _ | with_reducible apply Grew.alloc | with_reducible apply Grew.grow | with_reducible apply Grew.drew | with_reducible apply Grew.drewN))⟩
          · have q1 : decide (y.n = (sn : Int)) = false := decide_eq_false hyn
            have q2 : (y.n == (sn : Int)) = false := by simpa using hyn
            have q3 : (y.n != (sn : Int)) = true := by simpa using hyn
            clear hcon hyn
            go_wp2
            first | refine wp_region_pure_lit_g (by kernel_rfl) (by kernel_rfl) ?_ | refine wp_region_pure_lit (by kernel_rfl) (by kernel_rfl) ?_
            repeat (go_big_quiet_step ((fail)))
            refine wpQuiet_nil ?_
            intro _ hw'
            obtain ⟨δ1, hw''⟩ := hw'
            subst hw''
            go_wp2
            refine bodyPost_ret (v := chkV none) (results_wide_bool none rfl _ rfl rfl (by rw [wd_none]; simp [go_sem, f2, l2])) rfl ⟨by rw [HR2.out], (Grew.setRow_new (HG3.out.trans GR2.out) _ _ (Nat.le_succ_of_le (Nat.le_succ _))).trans (by repeat (first | with_reducible exact Grew.refl _ | with_reducible apply Grew.alloc | with_reducible apply Grew.grow | with_reducible apply Grew.drew | with_reducible apply Grew.drewN))⟩
      · obtain rfl : k = M := by omega
        have hge : ¬ ((k : Int) < (k : Int)) := by omega
        have gA : Grew A2 wr := HCK.out.gr
        obtain ⟨t1, t2, t3, t4⟩ := HP.out
        have t5 := Nat.lt_trans t4 (show A2.heap.size < A2.heap.size + 1 from Nat.lt_succ_self _)
        have r0 : wr.rowAt w.heap.size = ta root.h.l root.w.n root.n := by rw [Grew.rowAt gA _ t4]; exact t1
        have r2 : wr.rowAt (w.heap.size + 1 + 1) = wv 0 := by rw [Grew.rowAt gA _ HLT.out]; exact t2
        have f2 : wr.rowFree (w.heap.size + 1 + 1) = true := by rw [Grew.rowFree gA _ HLT.out]; exact t3
        have l2 : w.heap.size + 1 + 1 < wr.heap.size := Nat.lt_of_lt_of_le HLT.out gA.size
        have l0 : w.heap.size < wr.heap.size := Nat.lt_of_succ_lt (Nat.lt_of_succ_lt l2)
        have l1 : A2.heap.size < wr.heap.size := Nat.lt_of_succ_lt hg
        have hR2 : R = if Tot.eq x root = true then some a else none := by
          rw [HR.out, HCL.out]; rfl
        have HR2 := Lib.hid hR2
        clear hk hn hR2 gA t1 t2 t3 t4 t5
        cases hE : Tot.eq x root
        · go_wp2
          refine bodyPost_ret (v := chkV none) (results_wide_bool none rfl _ rfl rfl (by rw [wd_none]; simp [go_sem, f2, l2])) rfl ⟨by rw [HR2.out, hE]; rfl, Grew.setRow_new (HG3.out.trans HCK.out.gr) _ _ (Nat.le_succ_of_le (Nat.le_succ _))⟩
        · go_wp2
          refine bodyPost_ret (v := chkV (some a)) (results_wide_bool (some a) rfl _ rfl rfl (by rw [show ((some a).getD Wd.zero).n = a.n from rfl]; simp [go_sem, f2, l2])) rfl ⟨by rw [HR2.out, hE]; rfl, Grew.setRow_new (HG3.out.trans HCK.out.gr) _ _ (Nat.le_succ_of_le (Nat.le_succ _))⟩
end Go.Proofs.Ytnhcamklammcdaa
/- What MmrPaths and MmrWhole rest on. -/
namespace Go.Proofs.Ytnhcamklammcdaa
set_option linter.unusedVariables false
set_option linter.unusedSimpArgs false
open Go.RowKit
set_option maxRecDepth 100000
theorem leaves_ones (ids : List Idb) (work : List Nat) (k : Nat) : Ones (leavesT ids work k) := by
  intro x hx
  obtain ⟨j, _, rfl⟩ := List.mem_map.1 hx
  rfl
theorem wsum_le (c : Nat) : ∀ l : List Tot, (∀ x ∈ l, x.w.n ≤ c) → wsum l ≤ l.length * c
  | [], _ => by simp [wsum]
  | x :: l, h => by
    have h1 := h x (by simp)
    have h2 := wsum_le c l (fun y hy => h y (by simp [hy]))
    have e : wsum (x :: l) = x.w.n + wsum l := by simp [wsum]
    rw [e, List.length_cons, Nat.succ_mul]
    omega
theorem leaves_w_le (ids : List Idb) (work : List Nat) (hw : ∀ x ∈ work, x < 4294967296) (k : Nat) : ∀ x ∈ leavesT ids work k, x.w.n ≤ 4294967296 := by
  intro x hx
  obtain ⟨j, _, rfl⟩ := List.mem_map.1 hx
  show (Wd.of (work.getD j 1)).n ≤ _
  have : work.getD j 1 < 4294967296 := by
    rw [List.getD]
    cases h : work[j]? with
    | none => simp
    | some y => exact hw y (List.mem_of_getElem? h)
  rw [of_val (by unfold B256; omega)]
  omega
theorem leaves_sum (ids : List Idb) (work : List Nat) (hw : ∀ x ∈ work, x < 4294967296) (k : Nat) (hk : k ≤ 1000) : wsum (leavesT ids work k) < B256 := by
  have := wsum_le 4294967296 (leavesT ids work k) (leaves_w_le ids work hw k)
  rw [leavesT_len] at this
  unfold B256
  omega
theorem wsum_snoc (l : List Tot) (k : Nat) (x : Tot) (hx : l[k]? = some x) : Wd.of (wsum (l.take (k + 1))) = (Wd.of (wsum (l.take k))).add x.w := by
  refine Wd.ext' ?_
  rw [List.take_add_one, hx, wsum_append, Wd.add_n, Wd.of_n, Wd.of_n]
  have : wsum (some x).toList = x.w.n := by simp [wsum]
  rw [this, Nat.mod_add_mod]
theorem wsum_zero : Wd.of (wsum []) = Wd.zero := Wd.ext' (by rw [show wsum [] = 0 from rfl, of_val b256_pos]; rfl)
theorem chk_more (root : Tot) (i : Int) (leaf : Tot) (path : List Tot) (y : Tot) (a : Wd) (h : chkO root i leaf path = some a) : chkO root i leaf (path ++ [y]) = none := by
  unfold chkO at h ⊢
  split at h
  · rename_i hc
    rw [if_neg (fun hh => by have := hc.2; have := hh.2; rw [List.length_append, List.length_singleton] at this; omega)]
  · cases h
/-- A row of so many cells is not the totals' own. -/
theorem ownT_apart {w : World} {base : Nat} {e : TypeId} {v : Value} {ls : List Tot} (h : OwnT w base e v ls) (b n : Nat) (hb : (w.rowAt b).size = n) (hn : n % 37 ≠ 0) : v.ownBlock ≠ some b := by
  rcases h.form with ⟨rfl, rfl⟩ | ⟨g, cap, rfl, _⟩
  · simp [Value.ownBlock]
  · intro he
    obtain rfl : g = b := by simpa [Value.ownBlock] using he
    obtain ⟨_, _, hs, _⟩ := ownG_row h
    rw [hb] at hs
    omega
theorem KeepsX.grownNew {Z W W' : World} (h : KeepsX Z (.slice none 0 0) W) {r : Option Nat} (g : W.grownBy W' r) (hr : ∀ k, r = some k → Z.heap.size ≤ k) : KeepsX Z (.slice none 0 0) W' :=
  ⟨Nat.le_trans h.1 g.size, fun b hb hn => (g.block b (Nat.lt_of_lt_of_le hb h.1) (fun e => by have := hr b e.symm; omega)).trans (h.2 b hb hn)⟩
end Go.Proofs.Ytnhcamklammcdaa
/- Peaks are of falling powers of two. No program in sight. -/
namespace Go.Proofs.Ytnhcamklammcdaa
set_option linter.unusedVariables false
set_option linter.unusedSimpArgs false
open Go.RowKit
set_option maxRecDepth 100000
theorem pk_exps : ∀ (rs l : List Tot) (b : Nat), PkR rs l b → Ones l → l.length ≤ 1099511627776 → ∃ es : List Nat, rs.map (·.n) = es.map (fun e => ((2 ^ e : Nat) : Int)) ∧ es.Pairwise (· < ·) ∧ (∀ e ∈ es, b ≤ e) ∧ (es.map (2 ^ ·)).sum = l.length := by
  intro rs
  induction rs with
  | nil =>
    intro l b h _ _
    cases h
    exact ⟨[], rfl, List.Pairwise.nil, by simp, rfl⟩
  | cons p ps ih =>
    intro l b h ho hb
    cases h with
    | cons _ l1 l2 _ e hbe hl h' =>
      have hp : 0 < 2 ^ e := Nat.two_pow_pos e
      rw [List.length_append] at hb
      obtain ⟨es, h1, h2, h3, h4⟩ := ih l1 (e + 1) h' ho.left (by omega)
      have hn := (allT_nw l2.length l2 (Nat.le_refl _) (by omega) (by omega) ho.right).1
      refine ⟨e :: es, ?_, ?_, ?_, ?_⟩
      · rw [List.map_cons, List.map_cons, h1, hn, hl]
      · exact List.Pairwise.cons (fun x hx => by have := h3 x hx; omega) h2
      · intro x hx
        rcases List.mem_cons.1 hx with rfl | hx
        · exact hbe
        · have := h3 x hx; omega
      · rw [List.map_cons, List.sum_cons, h4, List.length_append, hl]; omega
/-- The sum of the first. -/
def psum (fs : List Nat) (k : Nat) : Nat := ((fs.take k).map (2 ^ ·)).sum
theorem psum_succ (fs : List Nat) (k e : Nat) (h : fs[k]? = some e) : psum fs (k + 1) = psum fs k + 2 ^ e := by
  unfold psum
  rw [List.take_add_one, h]
  simp
theorem sum_take_le (fs : List Nat) (k : Nat) : psum fs k ≤ (fs.map (2 ^ ·)).sum := by
  conv => rhs; rw [← List.take_append_drop k fs, List.map_append, List.sum_append]
  unfold psum
  omega
theorem peaks_fall (ls : List Tot) (h1 : ls.length ≤ 1099511627776) (ho : Ones ls) : ∃ fs : List Nat, (peaksL ls).map (·.n) = fs.map (fun e => ((2 ^ e : Nat) : Int)) ∧ fs.Pairwise (· > ·) ∧ psum fs fs.length = ls.length := by
  obtain ⟨es, e1, e2, _, e4⟩ := pk_exps _ _ _ (peaks_pk ls.length ls rfl ho h1) ho h1
  refine ⟨es.reverse, ?_, ?_, ?_⟩
  · have := congrArg List.reverse e1
    rw [← List.map_reverse, List.reverse_reverse] at this
    rw [this, List.map_reverse]
  · rw [List.pairwise_reverse]; exact e2
  · unfold psum
    rw [List.take_length, List.map_reverse, List.sum_reverse, e4]
theorem falls (fs : List Nat) (hp : fs.Pairwise (· > ·)) (k a b : Nat) (ha : fs[k]? = some a) (hb : fs[k + 1]? = some b) : b < a := by
  obtain ⟨h1, rfl⟩ := List.getElem?_eq_some_iff.1 ha
  obtain ⟨h2, rfl⟩ := List.getElem?_eq_some_iff.1 hb
  exact List.pairwise_iff_getElem.1 hp k (k + 1) h1 h2 (by omega)
theorem map_at {l : List Tot} {fs : List Nat} (h : l.map (·.n) = fs.map (fun e => ((2 ^ e : Nat) : Int))) {k : Nat} {x : Tot} (hx : l[k]? = some x) : ∃ e, fs[k]? = some e ∧ x.n = ((2 ^ e : Nat) : Int) := by
  have h1 := congrArg (·[k]?) h
  simp only [List.getElem?_map, hx, Option.map_some] at h1
  cases hf : fs[k]? with
  | none => rw [hf] at h1; simp at h1
  | some e => rw [hf] at h1; simp only [Option.map_some, Option.some.injEq] at h1; exact ⟨e, rfl, h1⟩
end Go.Proofs.Ytnhcamklammcdaa
