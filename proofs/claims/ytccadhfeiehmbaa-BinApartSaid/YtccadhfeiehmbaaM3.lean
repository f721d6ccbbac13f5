/- What the statements of this chapter rest on, part 3. Conditions: none. -/
import Derived.RangeFuncBound
import Derived.RangeFuncCalls
import Derived.RangeFuncLeaves
import Derived.RangeFuncFrom
import Derived.Shelf.Abstract
import Derived.Shelf.RegionOpen
import Derived.WalkKit
import Derived.OwnWalkIn
import Derived.TacticsInMore
import Derived.LoopNIn
import Derived.LoopIn
import Derived.BigRegionIn
import Derived.Test.YtccadhfeiehmbaaM2
/- Rows that are cut off one after the other: where each begins; bin.cuts, and the function that it hands back. -/
namespace Go.Proofs.Ytccadhfeiehmbaa
open Go.RowKit Go.Shelf
set_option maxRecDepth 100000
set_option linter.unusedVariables false
set_option linter.unusedSimpArgs false
attribute [local go_sem] Oper.semAt_some
/-- Where the k-th one begins. -/
def bpos (l : List Nat) : Nat → Option Nat
  | 0 => some 1
  | k + 1 => (bpos l k).bind fun a => (blobAt l a).map (·.2)
/-- The k-th one, and where it ends. -/
def bitem (l : List Nat) (k : Nat) : Option (List Nat × Nat) := (bpos l k).bind (blobAt l)
def bend (l : List Nat) (k : Nat) : Nat := ((bitem l k).map (·.2)).getD 0
def bbytes (l : List Nat) (k : Nat) : List Nat := ((bitem l k).map (·.1)).getD []
theorem blobAt_le {l : List Nat} {a : Nat} {x : List Nat} {t : Nat} (h : blobAt l a = some (x, t)) : a + 2 ≤ t ∧ t ≤ l.length ∧ x.length ≤ l.length := by
  unfold blobAt at h
  split at h
  · rename_i h2
    simp only [Option.some.injEq, Prod.mk.injEq] at h
    obtain ⟨rfl, rfl⟩ := h
    exact ⟨by omega, h2.2, by rw [List.length_take, List.length_drop]; omega⟩
  · cases h
theorem blobAt_lt {l : List Nat} (hb : ∀ c ∈ l, c < 256) {a : Nat} {x : List Nat} {t : Nat} (h : blobAt l a = some (x, t)) : ∀ c ∈ x, c < 256 := by
  unfold blobAt at h
  split at h
  · simp only [Option.some.injEq, Prod.mk.injEq] at h
    obtain ⟨rfl, rfl⟩ := h
    exact fun c hc => hb c (List.mem_of_mem_drop (List.mem_of_mem_take hc))
  · cases h
theorem bpos_succ {l : List Nat} {k a : Nat} (h : bpos l k = some a) : bpos l (k + 1) = (blobAt l a).map (·.2) := by
  show (bpos l k).bind _ = _
  rw [h]; rfl
theorem bitem_at {l : List Nat} {k a : Nat} (h : bpos l k = some a) : bitem l k = blobAt l a := by unfold bitem; rw [h]; rfl
theorem bpos_ge {l : List Nat} : ∀ {k a : Nat}, bpos l k = some a → 1 + 2 * k ≤ a ∧ (k = 0 ∨ a ≤ l.length)
  | 0, a, h => by cases h; exact ⟨Nat.le_refl _, .inl rfl⟩
  | k + 1, a, h => by
    cases hp : bpos l k with
    | none => simp [bpos, hp] at h
    | some b =>
      rw [bpos_succ hp] at h
      cases hb : blobAt l b with
      | none => rw [hb] at h; cases h
      | some y =>
        obtain ⟨x, t⟩ := y
        rw [hb] at h
        simp only [Option.map_some, Option.some.injEq] at h
        subst h
        have h1 := bpos_ge hp
        have h2 := blobAt_le hb
        exact ⟨by omega, .inr h2.2.1⟩
theorem bpos_end {l : List Nat} {k : Nat} {x : List Nat} {t : Nat} (h : bitem l k = some (x, t)) : bpos l (k + 1) = some t := by
  unfold bitem at h
  cases hp : bpos l k with
  | none => rw [hp] at h; cases h
  | some a =>
    rw [hp] at h
    have h : blobAt l a = some (x, t) := h
    rw [bpos_succ hp, h]; rfl
theorem bpos_up {l : List Nat} {k : Nat} (h : bpos l k = none) : ∀ m, k ≤ m → bpos l m = none
  | 0, hm => by obtain rfl : k = 0 := by omega
                exact h
  | m + 1, hm => by
    rcases Nat.eq_or_lt_of_le hm with rfl | h2
    · exact h
    · show (bpos l m).bind _ = none
      rw [bpos_up h m (by omega)]; rfl
theorem bitem_none {l : List Nat} {k : Nat} (h : bitem l k = none) : bpos l (k + 1) = none := by
  unfold bitem at h
  cases hp : bpos l k with
  | none => exact bpos_up hp _ (by omega)
  | some a =>
    rw [hp] at h
    have h : blobAt l a = none := h
    rw [bpos_succ hp, h]; rfl
theorem bitem_few {l : List Nat} {k : Nat} {y : List Nat × Nat} (h : bitem l k = some y) : k < l.length := by
  have h1 := bpos_end (x := y.1) (t := y.2) h
  have h2 := bpos_ge h1
  omega
/-- What lay ahead of 'n1', but for two blocks, lies as it lay. -/
def Kept2 (g1 g2 n1 : Nat) (W W' : World) : Prop := ∀ k, k < n1 → k ≠ g1 → k ≠ g2 → W'.heap[k]? = W.heap[k]?
theorem Kept2.refl (g1 g2 n1 : Nat) (W : World) : Kept2 g1 g2 n1 W W := fun _ _ _ _ => rfl
theorem Kept2.trans {g1 g2 n1 : Nat} {A B C : World} (h : Kept2 g1 g2 n1 A B) (k : Kept2 g1 g2 n1 B C) : Kept2 g1 g2 n1 A C := fun i h1 h2 h3 => (k i h1 h2 h3).trans (h i h1 h2 h3)
theorem Kept2.cell {g1 g2 n1 : Nat} {A B : World} (h : Kept2 g1 g2 n1 A B) {p : Addr} {v : Value} (h1 : p.block < n1) (h2 : p.block ≠ g1) (h3 : p.block ≠ g2) (hc : A.cell? p = some v) : B.cell? p = some v :=
  (World.cell?_of_block (h p.block h1 h2 h3)).trans hc
theorem Kept2.grew {g1 g2 n1 : Nat} {A B C : World} (h : Kept2 g1 g2 n1 A B) (g : Grew B C) (hn : n1 ≤ B.heap.size) : Kept2 g1 g2 n1 A C := fun i h1 h2 h3 => (g.heap (by omega)).trans (h i h1 h2 h3)
theorem by_grew {w w' : World} (h : Grew w w') (row : Option Nat) : w.grownBy w' row := by
  have b := h.below
  exact ⟨b.os, b.tape, b.output, b.size, fun k hk _ => b.block k hk⟩
theorem cuts_in (F : Fence) (n : Nat) (hf : F.fn 12) (hro : F.round = none) (p : Option Addr) (len cap : Nat) (w : World) :
    CallsIn F n Try.prog 12 #[.slice p len cap] w fun e w' => e = .returned (.func (.func 14) #[] #[.pointer (some ⟨w.heap.size, 0, none⟩)]) ∧
      w' = w.alloc (.cells #[.slice p len cap] 23) := by
  refine callsIn_of_wp Try.func12 rfl hf ?_ hro
  simp only [Try.ntmps12, List.size_toArray, List.length_cons, List.length_nil, Nat.reduceAdd, Nat.reduceSub, Array.replicate_succ, Array.replicate_zero, List.push_toArray, List.append_toArray, List.nil_append, List.cons_append]
  gi_wp2
  go_ret
  exact ⟨rfl, rfl⟩
/-- What is handed out, as it is handed out. -/
def CutH (l : List Nat) (B : Nat) (y : Nat × Value) (W : World) : Prop := ∃ x t, bitem l y.1 = some (x, t) ∧ OwnR W B 5 y.2 (bys x)
set_option maxHeartbeats 3200000 in
theorem cuts1_in (n : Nat) (hn : 2 ≤ n) (l : List Nat) (b o c : Nat) (Bs g1 g2 n1 lp B0 B : Nat) (hb : ∀ x ∈ l, x < 256) (hc : l.length ≤ c) (hl : l.length ≤ 1000000) (hl0 : 0 < l.length)
    (h1 : Bs < n1) (h2 : Bs ≠ g1) (h3 : Bs ≠ g2) (h4 : b < n1) (h5 : b ≠ g1) (h6 : b ≠ g2)
    (J Jx : List (Nat × Value) → World → Prop) (hJ : AbidesFrom B J)
    (hY : ∀ pre x W, J pre W → CutH l B0 x W → pre.length < l.length → YieldAt .wide (n - 1) Try.prog lp #[.int .i64 (bend l x.1 : Nat), x.2] W fun e W' =>
      (e = .returned (.bool true) ∧ J (pre ++ [x]) W' ∧ (W.heap.size ≤ W'.heap.size ∧ Kept2 g1 g2 n1 W W')) ∨ (e = .returned (.bool false) ∧ Jx (pre ++ [x]) W'))
    (W : World) (hB0 : B0 ≤ W.heap.size) (hn1 : n1 ≤ W.heap.size) (cs : W.cell? ⟨Bs, 0, none⟩ = some (.slice (some ⟨b, o, none⟩) l.length c)) (hat : ∀ j u, (bys l)[j]? = some u → W.cell? ⟨b, o + j, none⟩ = some u) (h0 : J [] W) :
    CallsIn .wide n Try.prog 14 #[.func (.yield lp) #[] #[], .pointer (some ⟨Bs, 0, none⟩)] W fun e W' => (∃ v, e = .returned v) ∧
      ((∃ ys : List (Nat × Value), (ys.map (·.1) = List.range ys.length ∧ bitem l ys.length = none) ∧ J ys W') ∨ (∃ pre : List (Nat × Value), (pre.map (·.1) = List.range pre.length) ∧ Jx pre W')) := by
  refine callsIn_of_wp Try.func14 rfl trivial ?_ rfl
  simp only [Try.ntmps14, List.size_toArray, List.length_cons, List.length_nil, Nat.reduceAdd, Nat.reduceSub, Array.replicate_succ, Array.replicate_zero, List.push_toArray, List.append_toArray, List.nil_append, List.cons_append]
  have HY := Lib.hid hY
  have HJ := Lib.hid hJ
  have HA := Lib.hid hat
  have C1 := Lib.hid cs
  have CK := Lib.hid (fun a W s => cut_w l (some ⟨b, o, none⟩) c a W hb s hc hl)
  obtain ⟨N, hN⟩ : ∃ N, l.length = N := ⟨_, rfl⟩
  have HN := Lib.hid hN
  rw [hN] at HY C1 CK hc hl hl0
  clear hY hJ hat cs hN hb
  gi_wp2
  gi_loopw [3] (fun i wr => ∃ (k a : Nat) (pre : List (Nat × Value)), i = .int .i64 a ∧ pre.map (·.1) = List.range k ∧ pre.length = k ∧ bpos l k = some a ∧ J pre wr ∧ W.heap.size ≤ wr.heap.size ∧ Kept2 g1 g2 n1 W wr) (fun i _ => N + 3 - (intOf i).toNat)
  case atStart => exact ⟨0, 1, [], rfl, rfl, rfl, rfl, h0, Nat.le_refl _, Kept2.refl _ _ _ _⟩
  case round =>
    obtain ⟨k, a, pre, rfl, hp1, hp2, hpos, hJs, hsz, hkp⟩ := hrel
    have c1 := hkp.cell (p := ⟨Bs, 0, none⟩) h1 h2 h3 C1.out
    have hge := bpos_ge hpos
    rw [HN.out] at hge
    have sv : Shows wr (.slice (some ⟨b, o, none⟩) N c) (bys l) := .inl ⟨b, o, c, by rw [bys_len, HN.out], by omega, fun j u hj => hkp.cell (p := ⟨b, o + j, none⟩) h4 h5 h6 (HA.out j u hj)⟩
    have SV := Lib.hid sv
    have PP := Lib.hid (And.intro hp1 (And.intro hp2 hpos))
    have HJs := Lib.hid hJs
    have SZ := Lib.hid (And.intro hsz hkp)
    have GE := Lib.hid hge
    clear sv hp1 hp2 hpos hJs hsz hkp hge
    gi_wp2
    refine ⟨trivial, fun _ => by omega, (callsIn_wide.2 (CK.out a wr SV.out)).mono ?_⟩
    rintro e W1 ⟨⟨hbl, rfl⟩ | ⟨x, t, v, hbl, rfl, ho⟩, hg⟩
    · have hi := bitem_at PP.out.2.2
      have HI := Lib.hid (hi.trans hbl)
      have G1 := Lib.hid hg
      clear hg hbl hi
      gi_wp2
      refine ⟨fun f e => by (cases e), ?_⟩
      gi_wp2
      refine bodyPost_ret (results_none rfl _ _ _) rfl ?_
      exact ⟨⟨_, rfl⟩, .inl ⟨pre, ⟨by rw [PP.out.2.1]; exact PP.out.1, by rw [PP.out.2.1]; exact HI.out⟩, HJ.out _ _ _ none HJs.out (by_grew G1.out none) (fun r e => by cases e)⟩⟩
    · have hi := (bitem_at PP.out.2.2).trans hbl
      have hle := blobAt_le hbl
      rw [HN.out] at hle
      have hend : bend l k = t := by unfold bend; rw [hi]; rfl
      have hfew := bitem_few hi
      obtain ⟨fn, tmps, assign, body, hy, hR⟩ := HY.out pre (k, v) W1 (HJ.out _ _ _ none HJs.out (by_grew hg none) (fun r e => by cases e)) ⟨x, t, hi, ho.base (by have := SZ.out.1; omega)⟩ (by rw [PP.out.2.1]; rw [HN.out] at hfew; exact hfew)
      rw [show bend l (k, v).1 = t from hend] at hy
      obtain ⟨pv, cv, rfl⟩ := shows_form ho.shows
      have HR := Lib.hid hR
      have HI := Lib.hid (And.intro hi (bpos_end hi))
      have LE := Lib.hid hle
      have KP := Lib.hid (And.intro (Nat.le_trans SZ.out.1 hg.size) (SZ.out.2.grew hg (by have := SZ.out.1; omega)))
      clear hR hi hle hend hfew ho hg hbl c1
      gi_wp2
      refine ⟨fun _ => by omega, HR.out.mono ?_⟩
      rintro e W3 (⟨rfl, hJ3, hs3, hk3⟩ | ⟨rfl, hJx3⟩)
      · have HJ3 := Lib.hid hJ3
        have K3 := Lib.hid (And.intro (Nat.le_trans KP.out.1 hs3) (KP.out.2.trans hk3))
        clear hJ3 hk3 hs3
        gi_wp2
        refine ⟨⟨k + 1, t, pre ++ [(k, .slice pv _ cv)], rfl, ?_, ?_, HI.out.2, HJ3.out, K3.out.1, K3.out.2⟩, ?_⟩
        · rw [List.map_append, PP.out.1, List.range_succ]; rfl
        · rw [List.length_append, PP.out.2.1]; rfl
        · have := LE.out; have := GE.out; simp only [intOf]; omega
      · gi_wp2
        refine bodyPost_ret (results_none rfl _ _ _) rfl ?_
        exact ⟨⟨_, rfl⟩, .inr ⟨_, by rw [List.map_append, PP.out.1, List.length_append, PP.out.2.1, List.length_singleton, List.range_succ]; rfl, hJx3⟩⟩
end Go.Proofs.Ytccadhfeiehmbaa
/- bin.Split: where its loop stands. -/
namespace Go.Proofs.Ytccadhfeiehmbaa
open Go.RowKit Go.Shelf
set_option maxRecDepth 100000
set_option linter.unusedVariables false
set_option linter.unusedSimpArgs false
attribute [local go_sem] Oper.semAt_some
theorem not_cells_block {W : World} {r : Nat} {o : Obj} (h : W.heap[r]? = some o) (ho : o.isCells = false) (a : Addr) (ha : a.block = r) : W.cell? a = none := by
  unfold World.cell?
  rw [ha, h]
  cases o with
  | cells c e f => cases ho
  | _ => rfl
theorem cell_turn {W W' : World} {row : Option Nat} (g : W.grownBy W' row) (hr : ∀ r, row = some r → ∃ o : Obj, W.heap[r]? = some o ∧ o.isCells = false) {a : Addr} {v : Value} (h : W.cell? a = some v) : W'.cell? a = some v := by
  have hlt : a.block < W.heap.size := by
    unfold World.cell? at h
    cases hb : W.heap[a.block]? with
    | none => rw [hb] at h; cases h
    | some o => exact (Array.getElem?_eq_some_iff.1 hb).1
  refine (World.cell?_of_block (g.block _ hlt (fun e => ?_))).trans h
  obtain ⟨o, ho, hc⟩ := hr _ e.symm
  rw [not_cells_block ho hc a rfl] at h
  cases h
theorem own_turn {W W' : World} {base : Nat} {e : TypeId} {v : Value} {xs : List Value} {row : Option Nat} (h : OwnR W base e v xs) (g : W.grownBy W' row) (hr : ∀ r, row = some r → ∃ o : Obj, W.heap[r]? = some o ∧ o.isCells = false) : OwnR W' base e v xs := by
  refine ⟨h.1, ?_⟩
  rcases h.2 with hn | ⟨b, cap, cur, rfl, hb, hg, rest⟩
  · exact .inl hn
  · refine .inr ⟨b, cap, cur, rfl, hb, (g.block b (Array.getElem?_eq_some_iff.1 hg).1 (fun e => ?_)).trans hg, rest⟩
    obtain ⟨o, ho, hc⟩ := hr _ e.symm
    rw [hg] at ho; cases ho; cases hc
/-- Rows of other types are other rows. -/
theorem own_other {W : World} {b1 b2 : Nat} {e1 e2 : TypeId} {v1 v2 : Value} {x1 x2 : List Value} (h1 : OwnR W b1 e1 v1 x1) (h2 : OwnR W b2 e2 v2 x2) (hne : e1 ≠ e2) : v1.ownBlock = none ∨ v1.ownBlock ≠ v2.ownBlock := by
  rcases h1.2 with ⟨rfl, _⟩ | ⟨g, c, cur, rfl, _, hg, _⟩
  · exact .inl rfl
  · refine .inr (fun e => ?_)
    rcases h2.2 with ⟨rfl, _⟩ | ⟨g', c', cur', rfl, _, hg', _⟩
    · cases e
    · have e : some g = some g' := e
      cases e
      rw [hg] at hg'
      cases hg'
      exact hne rfl
theorem CutH.turn {l : List Nat} {B : Nat} {y : Nat × Value} {W W' : World} {row : Option Nat} (h : CutH l B y W) (g : W.grownBy W' row) (hr : ∀ r, row = some r → ∃ o : Obj, W.heap[r]? = some o ∧ o.isCells = false) : CutH l B y W' := by
  obtain ⟨x, t, h1, h2⟩ := h
  exact ⟨x, t, h1, own_turn h2 g hr⟩
def endL (l : List Nat) (pre : List (Nat × Value)) : Nat := match pre.getLast? with
  | none => 1
  | some y => bend l y.1
theorem endL_snoc (l : List Nat) (pre : List (Nat × Value)) (y : Nat × Value) : endL l (pre ++ [y]) = bend l y.1 := by unfold endL; rw [List.getLast?_append]; rfl
structure SpI (l : List Nat) (c0 : Nat) (V : Value) (b o : Nat) (w W : World) (r0 : Nat) (pre : List (Nat × Value)) : Prop where
  x : W.cell? ⟨r0, 0, none⟩ = some V
  d : W.cell? ⟨b, o, none⟩ = some (.int .u8 (c0 : Nat))
  o : ∃ ov, W.rowAt (r0 + 1) = #[ov] ∧ OwnR W (r0 + 1 + 1 + 1 + 1) 23 ov (pre.map (·.2))
  fo : W.rowFree (r0 + 1) = true
  e : W.rowAt (r0 + 1 + 1) = #[.int .i64 (endL l pre : Nat)]
  fe : W.rowFree (r0 + 1 + 1) = true
  sh : ∀ y ∈ pre, CutH l (r0 + 1 + 1 + 1 + 1) y W
  le : pre.length ≤ c0
  lt : r0 + 1 + 1 + 1 < W.heap.size
  gr : Grew w W
theorem SpI.turn {l : List Nat} {c0 : Nat} {V : Value} {b o : Nat} {w W W' : World} {r0 : Nat} {pre : List (Nat × Value)} {row : Option Nat} (s : SpI l c0 V b o w W r0 pre) (hw : w.heap.size ≤ r0) (g : W.grownBy W' row) (hr : ∀ r, row = some r → r0 + 1 + 1 + 1 < r ∧ ∃ o : Obj, W.heap[r]? = some o ∧ o.isCells = false) : SpI l c0 V b o w W' r0 pre := by
  have l0 := s.lt
  have e : ∀ j, j ≤ r0 + 1 + 1 → W'.heap[j]? = W.heap[j]? := fun j hj => g.block j (by omega) (fun e => by have := (hr j e.symm).1; omega)
  have hr2 := fun r e => (hr r e).2
  obtain ⟨ov, h1, h2⟩ := s.o
  exact ⟨cell_turn g hr2 s.x, cell_turn g hr2 s.d, ⟨ov, by rw [rowAt_of_heap (e _ (by omega)), h1], own_turn h2 g hr2⟩, by rw [rowFree_of_heap (e _ (by omega)), s.fo], by rw [rowAt_of_heap (e _ (by omega)), s.e], by rw [rowFree_of_heap (e _ (by omega)), s.fe],
    fun y hy => (s.sh y hy).turn g hr2, s.le, Nat.lt_of_lt_of_le l0 g.size, s.gr.grown g (fun j hj => by have := (hr j hj).1; omega)⟩
theorem SpI.grew {l : List Nat} {c0 : Nat} {V : Value} {b o : Nat} {w W W' : World} {r0 : Nat} {pre : List (Nat × Value)} (s : SpI l c0 V b o w W r0 pre) (hw : w.heap.size ≤ r0) (g : Grew W W') : SpI l c0 V b o w W' r0 pre := s.turn hw (by_grew g none) (fun r e => by cases e)
theorem setCell_one {W : World} {g : Nat} {u : Value} (hf : W.rowFree g = true) (hr : W.rowAt g = #[u]) (v : Value) : W.setCell ⟨g, 0, none⟩ v = W.setRow g #[v] := by
  have h2 := setCell_setRow_free W g (W.rowAt g) hf 0 v
  rw [setRow_same' _ _ hf, hr] at h2
  exact h2
theorem spot_one {W : World} {g : Nat} {u : Value} (hf : W.rowFree g = true) (hr : W.rowAt g = #[u]) : W.cell? ⟨g, 0, none⟩ = some u ∧ W.frozen? ⟨g, 0, none⟩ = false := by
  refine ⟨by rw [cell_rowAt, hr]; rfl, ?_⟩
  have := (there_row hf (o := 0) (n := 1) (by rw [hr]; simp) 0 (by omega)).2
  rwa [Nat.add_zero] at this
theorem own_cells {W : World} {base : Nat} {e : TypeId} {v : Value} {xs : List Value} (h : OwnR W base e v xs) {g : Nat} (hg : v.ownBlock = some g) : ∃ cur, W.heap[g]? = some (.cells cur e (0, 0)) := by
  rcases h.2 with ⟨rfl, _⟩ | ⟨b, cap, cur, rfl, _, hb, _⟩
  · cases hg
  · have hg : some b = some g := hg
    cases hg
    exact ⟨cur, hb⟩
theorem info_bs : ∃ i, Try.prog.info? 23 = some i ∧ i.zero = some (.slice none 0 0) ∧ i.size = 1 ∧ i.bytes = 24 := by
  have h : (Try.prog.info? 23).map (fun i => (i.zero, i.size, i.bytes)) = some (some (.slice none 0 0), 1, 24) := by kernel_rfl
  cases hi : Try.prog.info? 23 with
  | none => rw [hi] at h; cases h
  | some i =>
    rw [hi] at h
    simp only [Option.map_some, Option.some.injEq, Prod.mk.injEq] at h
    exact ⟨i, rfl, h.1, h.2.1, h.2.2⟩
theorem under_bss : Try.prog.underlying 29 = some (.slice 23) := Try.underlying29
theorem SpI.next {l : List Nat} {c0 : Nat} {V : Value} {b o : Nat} {w W Y W2 : World} {r0 k : Nat} {pre : List (Nat × Value)} {ov ov' v : Value} (s : SpI l c0 V b o w W r0 pre) (hw : w.heap.size ≤ r0) (hb : b ≠ r0 + 1) (hb2 : b ≠ r0 + 1 + 1) (hbs : b < r0) (hY : Grew W Y)
    (ho : OwnR W (r0 + 1 + 1 + 1 + 1) 23 ov (pre.map (·.2))) (h2 : OwnR W2 (r0 + 1 + 1 + 1 + 1) 23 ov' (pre.map (·.2) ++ [v])) (hg : Y.grownBy W2 ov.ownBlock) (hH : CutH l (r0 + 1 + 1 + 1 + 1) (k, v) W) (hlt : pre.length < c0) :
    SpI l c0 V b o w ((W2.setRow (r0 + 1) #[ov']).setRow (r0 + 1 + 1) #[.int .i64 (bend l k : Nat)]) r0 (pre ++ [(k, v)]) ∧ KeepsFrom (r0 + 1 + 1 + 1 + 1) W ((W2.setRow (r0 + 1) #[ov']).setRow (r0 + 1 + 1) #[.int .i64 (bend l k : Nat)]) ∧
      W.heap.size ≤ ((W2.setRow (r0 + 1) #[ov']).setRow (r0 + 1 + 1) #[.int .i64 (bend l k : Nat)]).heap.size ∧ Kept2 (r0 + 1) (r0 + 1 + 1) (r0 + 1 + 1 + 1 + 1) W ((W2.setRow (r0 + 1) #[ov']).setRow (r0 + 1 + 1) #[.int .i64 (bend l k : Nat)]) := by
  have l0 := s.lt
  have hbk := (ho.grew hY).block
  obtain ⟨Z, hZ⟩ : ∃ Z, (W2.setRow (r0 + 1) #[ov']).setRow (r0 + 1 + 1) #[.int .i64 (bend l k : Nat)] = Z := ⟨_, rfl⟩
  -- what lay in W, but for the row and the two variables, lies as it lay
  have e2 : ∀ j, j < W.heap.size → ov.ownBlock ≠ some j → W2.heap[j]? = W.heap[j]? := fun j hj hn => (hg.block j (Nat.lt_of_lt_of_le hj hY.size) (fun e => hn e.symm)).trans (hY.heap hj)
  have e3 : ∀ j, j ≠ r0 + 1 → j ≠ r0 + 1 + 1 → Z.heap[j]? = W2.heap[j]? := fun j h1 h2 => by rw [← hZ]; exact (World.heap_setRow_ne _ _ _ _ (by omega)).trans (World.heap_setRow_ne _ _ _ _ (by omega))
  have low : ∀ j, j ≤ r0 + 1 + 1 + 1 → ov.ownBlock ≠ some j := fun j hj e => by have := (hbk j e).1; omega
  have hsz : W.heap.size ≤ Z.heap.size := by rw [← hZ, setRow_size, setRow_size]; exact Nat.le_trans hY.size hg.size
  have f1 : W2.rowFree (r0 + 1) = true := by rw [rowFree_of_heap (e2 _ (by omega) (low _ (by omega)))]; exact s.fo
  have f2 : (W2.setRow (r0 + 1) #[ov']).rowFree (r0 + 1 + 1) = true := by rw [rowFree_of_heap (World.heap_setRow_ne _ _ _ _ (by omega)), rowFree_of_heap (e2 _ (by omega) (low _ (by omega)))]; exact s.fe
  -- rows of bytes lie as they lay
  have keepB : ∀ y : Nat × Value, CutH l (r0 + 1 + 1 + 1 + 1) y W → CutH l (r0 + 1 + 1 + 1 + 1) y Z := fun y ⟨x, t, h1, h2⟩ => by
    refine ⟨x, t, h1, h2.1, ?_⟩
    rcases h2.2 with hn | ⟨bb, cap, cur, hv, hb', hgg, rest⟩
    · exact .inl hn
    · refine .inr ⟨bb, cap, cur, hv, hb', ?_, rest⟩
      have hlt := (Array.getElem?_eq_some_iff.1 hgg).1
      rw [e3 bb (by omega) (by omega), e2 bb hlt (fun e => ?_), hgg]
      obtain ⟨cur', hc'⟩ := own_cells ho e
      rw [hgg] at hc'
      cases hc'
  have cellZ : ∀ (a : Addr) (u : Value), a.block ≠ r0 + 1 → a.block ≠ r0 + 1 + 1 → a.block ≤ r0 → W.cell? a = some u → Z.cell? a = some u := fun a u h1 h2 h3 h => by
    have hlt : a.block < W.heap.size := by omega
    exact (World.cell?_of_block ((e3 _ h1 h2).trans (e2 _ hlt (low _ (by omega))))).trans h
  rw [hZ]
  refine ⟨⟨cellZ _ _ (by simp) (by simp; omega) (Nat.le_refl _) s.x, cellZ _ _ hb hb2 (Nat.le_of_lt hbs) s.d, ⟨ov', ?_, ?_⟩, ?_, ?_, ?_, ?_, ?_, ?_, ?_⟩, ⟨hsz, ?_⟩, hsz, ?_⟩
  · rw [← hZ, rowAt_of_heap (World.heap_setRow_ne _ _ _ _ (by omega)), rowAt_setRow_free _ _ _ f1]
  · rw [List.map_append]
    have hb3 := h2.block
    refine ⟨h2.1, ?_⟩
    rcases h2.2 with hn | ⟨bb, cap, cur, hv, hb', hgg, rest⟩
    · exact .inl hn
    · exact .inr ⟨bb, cap, cur, hv, hb', by rw [e3 bb (by omega) (by omega)]; exact hgg, rest⟩
  · rw [← hZ, rowFree_of_heap (World.heap_setRow_ne _ _ _ _ (by omega)), rowFree_setRow_free _ _ _ f1]
  · rw [← hZ, rowAt_setRow_free _ _ _ f2, endL_snoc]
  · rw [← hZ, rowFree_setRow_free _ _ _ f2]
  · intro y hy
    rcases List.mem_append.1 hy with h | h
    · exact keepB y (s.sh y h)
    · rw [List.mem_singleton.1 h]; exact keepB _ hH
  · rw [List.length_append, List.length_singleton]; omega
  · omega
  · rw [← hZ]
    refine ((((s.gr.trans hY).grown hg (fun j e => ?_)).grown (grownBy_setRow _ _ _) (fun j e => ?_)).grown (grownBy_setRow _ _ _) (fun j e => ?_))
    · have := (hbk j e).1; omega
    · cases e; omega
    · cases e; omega
  · intro j o' hj hW ho'
    have hlt := (Array.getElem?_eq_some_iff.1 hW).1
    rw [e3 j (by omega) (by omega), e2 j hlt (fun e => ?_)]
    · exact hW
    · obtain ⟨cur', hc'⟩ := own_cells ho e
      rw [hW] at hc'
      cases hc'
      cases ho'
  · intro j h1 h2' h3
    rw [e3 j h2' h3]
    exact e2 j (by omega) (low j (by omega))
theorem shows_turn {W W' : World} {v : Value} {xs : List Value} {row : Option Nat} (h : Shows W v xs) (g : W.grownBy W' row) (hr : ∀ r, row = some r → ∃ o : Obj, W.heap[r]? = some o ∧ o.isCells = false) : Shows W' v xs := by
  rcases h with ⟨b, o, c, rfl, hb, hat⟩ | h
  · exact .inl ⟨b, o, c, rfl, Nat.lt_of_lt_of_le hb g.size, fun j u hj => cell_turn g hr (hat j u hj)⟩
  · exact .inr h
theorem rowsat_turn {W W' : World} {v : Value} {ls : List (List Nat)} {row : Option Nat} (h : RowsAt W v ls) (g : W.grownBy W' row) (hr : ∀ r, row = some r → ∃ o : Obj, W.heap[r]? = some o ∧ o.isCells = false) : RowsAt W' v ls := by
  obtain ⟨vs, h1, h2, h3⟩ := h
  exact ⟨vs, h1, shows_turn h2 g hr, fun k hk => shows_turn (h3 k hk) g hr⟩
theorem nat_beq {a b : Nat} (h : a = b) : ((a : Int) == (b : Int)) = true := by rw [h]; exact beq_self_eq_true _
theorem nat_bne {a b : Nat} (h : ¬ a = b) : ((a : Int) == (b : Int)) = false := by
  have : ¬ (a : Int) = (b : Int) := by omega
  exact beq_eq_false_iff_ne.2 this
theorem endL_pos {l : List Nat} {B : Nat} {W : World} {ys : List (Nat × Value)} (h : ys.map (·.1) = List.range ys.length) (hh : ∀ y ∈ ys, CutH l B y W) : bpos l ys.length = some (endL l ys) := by
  rcases List.eq_nil_or_concat ys with rfl | ⟨zs, y, rfl⟩
  · rfl
  · rw [List.concat_eq_append] at *
    rw [List.map_append, List.length_append, List.length_singleton, List.range_succ] at h
    have hy : y.1 = zs.length := by
      have := (List.append_inj' h rfl).2
      simpa using this
    obtain ⟨x, t, h1, _⟩ := hh y (by simp)
    rw [endL_snoc, List.length_append, List.length_singleton, ← hy, bpos_end h1]
    unfold bend
    rw [h1]; rfl
theorem cut_rows {l : List Nat} {B m : Nat} {W : World} {v : Value} {ys : List (Nat × Value)} (h : ys.map (·.1) = List.range ys.length) (hm : ys.length = m) (hh : ∀ y ∈ ys, CutH l B y W) (hv : Shows W v (ys.map (·.2))) : RowsAt W v ((List.range m).map (bbytes l)) := by
  subst hm
  refine ⟨ys.map (·.2), by simp, hv, fun k hk => ?_⟩
  rw [List.length_map, List.length_range] at hk
  obtain ⟨x, t, h1, h2⟩ := hh ys[k] (List.getElem_mem _)
  have hk1 : ys[k].1 = k := by
    have := congrArg (fun z => z[k]?) h
    simp only [List.getElem?_map, List.getElem?_eq_getElem hk, Option.map_some, List.getElem?_range hk, Option.some.injEq] at this
    exact this
  have e1 : (ys.map (·.2)).getD k undef = ys[k].2 := by simp [List.getD, List.getElem?_eq_getElem hk]
  have e2 : ((List.range ys.length).map (bbytes l)).getD k [] = x := by
    simp only [List.getD, List.getElem?_map, List.getElem?_range hk, Option.map_some, Option.getD_some]
    rw [hk1] at h1
    unfold bbytes
    rw [h1]; rfl
  rw [e1, e2]
  exact h2.shows
/-- What Split hands back. -/
def bsplit (l : List Nat) : Option (List (List Nat)) := match l with
  | [] => none
  | c :: _ => if bpos l c = some l.length then some ((List.range c).map (bbytes l)) else none
theorem bsplit_some {c : Nat} {l l' : List Nat} (hl : l = c :: l') (h : bpos l c = some l.length) : bsplit l = some ((List.range c).map (bbytes l)) := by
  subst hl
  show (if bpos (c :: l') c = some (c :: l').length then _ else _) = _
  rw [if_pos h]
theorem bsplit_none {c : Nat} {l l' : List Nat} (hl : l = c :: l') (h : bpos l c ≠ some l.length) : bsplit l = none := by
  subst hl
  show (if bpos (c :: l') c = some (c :: l').length then _ else _) = _
  rw [if_neg h]
theorem cuts_tells (n : Nat) (hn : 2 ≤ n) (l : List Nat) (b o c : Nat) (Bs g1 g2 n1 B0 : Nat) (hb : ∀ x ∈ l, x < 256) (hc : l.length ≤ c) (hl : l.length ≤ 1000000) (hl0 : 0 < l.length)
    (h1 : Bs < n1) (h2 : Bs ≠ g1) (h3 : Bs ≠ g2) (h4 : b < n1) (h5 : b ≠ g1) (h6 : b ≠ g2)
    (w : World) (hB0 : B0 ≤ w.heap.size) (hn1 : n1 ≤ w.heap.size) (cs : w.cell? ⟨Bs, 0, none⟩ = some (.slice (some ⟨b, o, none⟩) l.length c)) (hat : ∀ j u, (bys l)[j]? = some u → w.cell? ⟨b, o + j, none⟩ = some u) :
    SeqTells .wide n Try.prog 14 #[.pointer (some ⟨Bs, 0, none⟩)] (fun y : Nat × Value => #[.int .i64 (bend l y.1 : Nat), y.2]) (CutH l B0) (fun W W' => W.heap.size ≤ W'.heap.size ∧ Kept2 g1 g2 n1 W W')
      (fun ys => ys.map (·.1) = List.range ys.length ∧ bitem l ys.length = none) (fun ys => ys.map (·.1) = List.range ys.length) l.length w := fun lp J Jx W hW hJ hJx hY h0 => by
  have cs' := (hW.cell (p := ⟨Bs, 0, none⟩) (Nat.lt_of_lt_of_le h1 hn1)).trans cs
  exact cuts1_in n hn l b o c Bs g1 g2 n1 lp B0 W.heap.size hb hc hl hl0 h1 h2 h3 h4 h5 h6 J Jx hJ hY W (Nat.le_trans hB0 hW.size) (Nat.le_trans hn1 hW.size) cs'
    (fun j u hj => (hW.cell (p := ⟨b, o + j, none⟩) (Nat.lt_of_lt_of_le h4 hn1)).trans (hat j u hj)) h0
end Go.Proofs.Ytccadhfeiehmbaa
/- bin.Split. -/
namespace Go.Proofs.Ytccadhfeiehmbaa
open Go.RowKit Go.Shelf
set_option maxRecDepth 100000
set_option linter.unusedVariables false
set_option linter.unusedSimpArgs false
attribute [local go_sem] Oper.semAt_some
def SplitP (l : List Nat) (e : Ending) (w' : World) : Prop := (bsplit l = none ∧ e = .returned (.tuple #[.slice none 0 0, .bool false])) ∨
  ∃ rows v, bsplit l = some rows ∧ e = .returned (.tuple #[v, .bool true]) ∧ RowsAt w' v rows
set_option maxHeartbeats 4000000 in
theorem split_in (n : Nat) (hn : 6 ≤ n) (l : List Nat) (p : Option Addr) (c : Nat) (w : World) (hb : ∀ x ∈ l, x < 256) (hv : Shows w (.slice p l.length c) (bys l)) (hc : l.length ≤ c) (hl : l.length ≤ 1000000) (hl0 : 0 < l.length) :
    CallsIn .wide n Try.prog 10 #[.slice p l.length c] w fun e w' => SplitP l e w' ∧ Grew w w' := by
  obtain ⟨ib, hi, hz, hsz2, hby⟩ := info_bs
  have h1 : 1 ≤ n := by omega
  obtain ⟨b, o, rfl, hbW, hat⟩ : ∃ b o, p = some ⟨b, o, none⟩ ∧ b < w.heap.size ∧ ∀ j u, (bys l)[j]? = some u → w.cell? ⟨b, o + j, none⟩ = some u := by
    rcases hv with ⟨b, o, c', he, hbb, hat⟩ | ⟨p', c', he, h0⟩
    · simp only [Value.slice.injEq] at he
      exact ⟨b, o, he.1, hbb, hat⟩
    · have := congrArg List.length h0
      rw [bys_len] at this
      have h3 : l.length = 0 := this
      omega
  obtain ⟨c0, l', hcl⟩ : ∃ c0 l', l = c0 :: l' := by
    cases l with
    | nil => simp at hl0
    | cons a t => exact ⟨a, t, rfl⟩
  have hc0 : c0 < 256 := hb c0 (by rw [hcl]; simp)
  have hd0 : w.cell? ⟨b, o, none⟩ = some (.int .u8 (c0 : Nat)) := hat 0 _ (by rw [hcl]; rfl)
  have HCL := Lib.hid hcl
  obtain ⟨N, hN⟩ : ∃ N, l.length = N := ⟨_, rfl⟩
  have HN := Lib.hid hN
  have HAT := Lib.hid hat
  have HB := Lib.hid hb
  rw [hN] at hl hl0 hc ⊢
  have n0 : ¬ N = 0 := by omega
  clear hv hat hcl hN hb
  refine callsIn_of_wp_marks Try.func10 rfl trivial ?_ rfl
  simp only [Try.ntmps10, List.size_toArray, List.length_cons, List.length_nil, Nat.reduceAdd, Nat.reduceSub, Array.replicate_succ, Array.replicate_zero, List.push_toArray, List.append_toArray, List.nil_append, List.cons_append]
  gi_wp2
  refine ⟨trivial, (cuts_in .wide (n - 1) trivial rfl _ _ _ _).mono ?_⟩
  rintro e w3 ⟨rfl, hw3⟩
  obtain ⟨r0, hr0⟩ : ∃ r0, w.heap.size = r0 := ⟨_, rfl⟩
  have hsz : w3.heap.size = r0 + 1 + 1 + 1 + 1 := by rw [hw3, ← hr0]; simp
  have hg3 : Grew w w3 := by rw [hw3]; exact (by repeat (first | with_reducible exact Grew.refl _ | with_reducible apply Grew.alloc | with_reducible apply Grew.grow | with_reducible apply Grew.drew | with_reducible apply Grew.drewN))
  have hI0 : SpI l c0 (.slice (some ⟨b, o, none⟩) N c) b o w w3 r0 [] := by
    have d3 := hg3.cell hd0
    rw [hw3, ← hr0] at *
    exact ⟨by simp [go_sem], d3, ⟨.slice none 0 0, by simp [go_sem], OwnR.nil _ _ _⟩, by simp [go_sem], by simp [go_sem]; rfl, by simp [go_sem], by simp, by simp, by simp, (by repeat (first | with_reducible exact Grew.refl _ | with_reducible apply Grew.alloc | with_reducible apply Grew.grow | with_reducible apply Grew.drew | with_reducible apply Grew.drewN))⟩
  have p1 : w3.cell? ⟨r0 + 1 + 1 + 1, 0, none⟩ = some (.slice (some ⟨b, o, none⟩) N c) := by rw [hw3, ← hr0]; simp [go_sem]
  have hat3 : ∀ j u, (bys l)[j]? = some u → w3.cell? ⟨b, o + j, none⟩ = some u := fun j u hj => hg3.cell (HAT.out j u hj)
  have bs : (((w.alloc (Obj.cells #[.slice (some ⟨b, o, none⟩) N c] 23)).alloc (Obj.cells #[.slice none 0 0] 29)).alloc (Obj.cells #[.int .i64 1] 3)).heap.size = r0 + 1 + 1 + 1 := by rw [← hr0]; simp
  rw [hr0] at hbW
  rw [bs, hr0]
  have HWR := Lib.hid (Nat.le_of_eq hr0)
  have H0 := Lib.hid hI0
  have HA3 := Lib.hid hat3
  clear hw3 hr0 bs hI0 hat3 hg3 hd0
  gi_wp2
  have hseq := cuts_tells (n - 1) (by omega) l b o c (r0 + 1 + 1 + 1) (r0 + 1) (r0 + 1 + 1) w3.heap.size (r0 + 1 + 1 + 1 + 1) HB.out (by rw [HN.out]; exact hc) (by rw [HN.out]; exact hl) (by rw [HN.out]; exact hl0) (by omega) (by omega) (by omega) (by omega) (by omega) (by omega) w3 (by omega) (Nat.le_refl _) (by rw [HN.out]; exact p1) HA3.out
  refine wpIn_rangeFunc_tells rfl h1 (gf := 14) (lb := #[.pointer (some ⟨r0 + 1 + 1 + 1, 0, none⟩)]) rfl trivial (enters_of Try.func14 (by kernel_rfl) rfl)
    hseq
    (fun h k => ⟨Nat.le_trans h.1 k.1, h.2.trans k.2⟩) (fun W l o o' hl h _ _ => ⟨by simp, fun k hk _ _ => World.putObj_heap_other (by omega)⟩) (Below.refl _ _) (fun _ => rfl)
    (fun pre W => SpI l c0 (.slice (some ⟨b, o, none⟩) N c) b o w W r0 pre) (fun c' pre W => c' = .exit 0 ∧ ∃ pre' y, pre = pre' ++ [y] ∧ pre'.length = c0 ∧ SpI l c0 (.slice (some ⟨b, o, none⟩) N c) b o w W r0 pre')
    (fun s W W' row hs hg hr => hs.turn HWR.out hg (fun r e => ⟨by have := (hr r e).1; omega, (hr r e).2⟩))
    (fun c' s W W' row hs hg hr => by
      obtain ⟨h0, pre', y, h1, h2, h3⟩ := hs
      exact ⟨h0, pre', y, h1, h2, h3.turn HWR.out hg (fun r e => ⟨by have := (hr r e).1; omega, (hr r e).2⟩)⟩)
    H0.out
    (fun pre y a' W => a' = { tmps := #[.slice (some ⟨b, o, none⟩) N c, .pointer (some ⟨r0, 0, none⟩), .slice none 0 0, .bool false, .pointer (some ⟨r0 + 1, 0, none⟩), .pointer (some ⟨r0 + 1 + 1, 0, none⟩), .int .i64 (bend l y.1 : Nat), y.2, .slice (some ⟨b, o, none⟩) N c, .int .i64 (N : Nat), .bool false, .slice (some ⟨b, o, none⟩) N c, .func (.func 14) #[] #[.pointer (some ⟨r0 + 1 + 1 + 1, 0, none⟩)], .int .i64 (bend l y.1 : Nat), y.2, undef, undef, undef, undef, undef, undef, undef, undef, undef, undef, undef, undef, undef, undef, undef, undef, undef, undef, undef, undef, undef, undef, undef, undef, undef, undef], defers := [] } ∧ CutH l (r0 + 1 + 1 + 1 + 1) y W) ?own ?assign ?body ?done ?stop
  case own =>
    rintro pre z a' _ W W' row ⟨h1, h2⟩ hg hr
    exact ⟨h1, h2.turn hg (fun r e => (hr r e).2)⟩
  case assign =>
    intro lq pre z W K hI hH hK
    gi_wp2
    refine hK _ _ (KeepsFrom.refl _ _) ⟨Nat.le_refl _, Kept2.refl _ _ _ _⟩ hI ⟨rfl, hH⟩
  case body =>
    rintro lb pre z a' W hlb hlr hI ⟨rfl, hH⟩ hlen
    have HI := Lib.hid hI
    have HH := Lib.hid hH
    obtain ⟨x, t, hx, hox⟩ := hH
    obtain ⟨pv, cv, hzf⟩ := shows_form hox.shows
    obtain ⟨ov, ho1, ho2⟩ := hI.o
    obtain ⟨pw, cw, hof⟩ := shows_form ho2.shows
    subst hof
    have e1 := hI.x
    have e2 := hI.d
    have e3 := hI.fo
    have e4 := hI.e
    have e5 := hI.fe
    have hle := hI.le
    obtain ⟨k, v⟩ := z
    have hzf : v = _ := hzf
    subst hzf
    rw [List.length_map] at *
    obtain ⟨m, hm⟩ : ∃ m, pre.length = m := ⟨_, rfl⟩
    have HM := Lib.hid hm
    rw [hm] at ho1 hle ho2
    have HO := Lib.hid ho2
    have cO : W.cell? ⟨r0 + 1, 0, none⟩ = some (.slice pw m cw) := by rw [cell_rowAt, ho1]; rfl
    have hmx : Try.prog.follows .mixedOrders = true := by kernel_rfl
    have hNc : ¬ (c : Int) = 0 := by omega
    have hw0 : IntKind.i64.wrap (c0 : Int) = (c0 : Int) := by rw [IntKind.wrap_i64]; omega
    clear hI ho2 hlr hox hseq hzf hm
    by_cases hbr : m = c0
    · subst hbr
      gi_wp2
      gi_region_o
      all_goals
        gi_wp2
        refine ⟨(KeepsFrom.of_grownBy (by_grew (show Grew W W.drew from (by repeat (first | with_reducible exact Grew.refl _ | with_reducible apply Grew.alloc | with_reducible apply Grew.grow | with_reducible apply Grew.drew | with_reducible apply Grew.drewN))) none) (fun j e => by cases e)), rfl, pre, _, rfl, HM.out, HI.out.turn HWR.out (by_grew (show Grew W W.drew from (by repeat (first | with_reducible exact Grew.refl _ | with_reducible apply Grew.alloc | with_reducible apply Grew.grow | with_reducible apply Grew.drew | with_reducible apply Grew.drewN))) none) (fun r e => by cases e)⟩
    · have hb2 : ((m : Int) == (c0 : Int)) = false := by
        have hb1 : ¬ (m : Int) = (c0 : Int) := by omega
        simpa using hb1
      have HBR := Lib.hid hbr
      clear hbr
      gi_wp2
      gi_region_o
      all_goals
        gi_wp2_with (gi_at_builtin; refine stop_of ?_)
        unfold Stop
        refine wpListIn_append_own _ rfl _ _ _ rfl (r0 + 1 + 1 + 1 + 1) _ ib _ 1 24 under_bss hi hz hsz2 hby rfl (by decide) _ m (pre.map (·.2)) rfl
          (by have := HO.out.grew (show Grew W ((W.alloc (Obj.cells #[.slice pv (bys x).length cv] 23)).drew) from (by repeat (first | with_reducible exact Grew.refl _ | with_reducible apply Grew.alloc | with_reducible apply Grew.grow | with_reducible apply Grew.drew | with_reducible apply Grew.drewN))); unfold OwnR at this; rw [List.length_map, HM.out] at this; exact this) ⟨W.heap.size, 0, none⟩ 1 1 [.slice pv (bys x).length cv] rfl rfl
          (fun j u hj => by
            cases j with
            | zero =>
              simp only [List.getElem?_cons_zero, Option.some.injEq] at hj
              subst hj
              simp [go_sem, Addr.add]
            | succ j => simp at hj) (by simp [Value.oneCell']) (by have := HI.out.le; simp only [maxLen]; omega) (by have := HI.out.le; omega) (by simp; have := HI.out.lt; omega) ?_
        intro v' W2 ho' hgb hnil
        clear hnil
        have ho3 : OwnR W2 (r0 + 1 + 1 + 1 + 1) 23 v' (pre.map (·.2) ++ [.slice pv (bys x).length cv]) := by
          unfold OwnR
          rw [List.length_append, List.length_map, HM.out]
          exact ho'
        replace hgb : ((W.alloc (Obj.cells #[.slice pv (bys x).length cv] 23)).drew).grownBy W2 (Value.slice pw m cw).ownBlock := hgb
        obtain ⟨pn, cn, hvn⟩ := shows_form ho3.shows
        obtain ⟨q, hq⟩ : ∃ q, (pre.map (·.2) ++ [Value.slice pv (bys x).length cv]).length = q := ⟨_, rfl⟩
        rw [hq] at hvn
        subst hvn
        have hgY : Grew W ((W.alloc (Obj.cells #[.slice pv (bys x).length cv] 23)).drew) := (by repeat (first | with_reducible exact Grew.refl _ | with_reducible apply Grew.alloc | with_reducible apply Grew.grow | with_reducible apply Grew.drew | with_reducible apply Grew.drewN))
        have hbk := (HO.out.grew hgY).block
        have same : ∀ j, j ≤ r0 + 1 + 1 → W2.heap[j]? = W.heap[j]? := fun j hj =>
          (hgb.block j (Nat.lt_of_lt_of_le (by have := HI.out.lt; omega) hgY.size) (fun e => by have := (hbk j e.symm).1; omega)).trans (hgY.heap (by have := HI.out.lt; omega))
        have q1 : W2.rowAt (r0 + 1) = #[.slice pw m cw] := by rw [rowAt_of_heap (same _ (by omega))]; exact ho1
        have q2 : W2.rowFree (r0 + 1) = true := by rw [rowFree_of_heap (same _ (by omega))]; exact e3
        have q3 : W2.rowAt (r0 + 1 + 1) = #[.int .i64 (endL l pre : Nat)] := by rw [rowAt_of_heap (same _ (by omega))]; exact e4
        have q4 : W2.rowFree (r0 + 1 + 1) = true := by rw [rowFree_of_heap (same _ (by omega))]; exact e5
        obtain ⟨c1, z1⟩ := spot_one q2 q1
        have w1 := setCell_one q2 q1 (.slice pn q cn)
        have u1 : (W2.setRow (r0 + 1) #[.slice pn q cn]).rowAt (r0 + 1 + 1) = #[.int .i64 (endL l pre : Nat)] := by rw [rowAt_of_heap (World.heap_setRow_ne _ _ _ _ (by omega))]; exact q3
        have u2 : (W2.setRow (r0 + 1) #[.slice pn q cn]).rowFree (r0 + 1 + 1) = true := by rw [rowFree_of_heap (World.heap_setRow_ne _ _ _ _ (by omega))]; exact q4
        obtain ⟨c2, z2⟩ := spot_one u2 u1
        have w2 := setCell_one u2 u1 (.int .i64 (bend l k : Nat))
        have NX := Lib.hid (SpI.next HI.out HWR.out (by omega) (by omega) hbW hgY HO.out ho3 hgb HH.out (by have := HBR.out; have := HM.out; omega))
        rw [← w1] at c2 z2
        have S1 := Lib.hid w1
        have S2 := Lib.hid w2
        clear ho' hgb ho3 hgY hbk hq same q1 q2 q3 q4 w1 w2 u1 u2 cO ho1 e1 e2 e3 e4 e5 hb2 hw0 hmx
        gi_wp2
        rw [S1.out, S2.out]
        exact ⟨by rw [hsz]; exact NX.out.2.1, ⟨NX.out.2.2.1, fun j h1 h2 h3 => NX.out.2.2.2 j (by omega) h2 h3⟩, NX.out.1⟩
  case done =>
    rintro D ys W hD ⟨HF, hlast⟩ hI HDD
    have hle := hI.le
    obtain ⟨ov, ho1, ho2⟩ := hI.o
    obtain ⟨pw, cw, hof⟩ := shows_form ho2.shows
    subst hof
    rw [List.length_map] at *
    have e1 := hI.x
    have e2 := hI.d
    have e4 := hI.e
    have hpos := endL_pos HF hI.sh
    have hrows := fun (q : Nat) (hq : ys.length = q) => cut_rows HF hq hI.sh ho2.shows
    obtain ⟨m, hm⟩ : ∃ m, ys.length = m := ⟨_, rfl⟩
    rw [hm] at ho1 hpos hrows
    obtain ⟨E, hE⟩ : ∃ E, endL l ys = E := ⟨_, rfl⟩
    rw [hE] at e4 hpos
    have ht : (m = c0 ∧ E = N ∧ ∃ rows, bsplit l = some rows ∧ RowsAt W (.slice pw m cw) rows) ∨ (m = c0 ∧ decide (E = N) = false ∧ ((E : Int) == (N : Int)) = false ∧ bsplit l = none) ∨ (decide (m = c0) = false ∧ ((m : Int) != (c0 : Int)) = true ∧ bsplit l = none) := by
      by_cases q1 : m = c0
      · by_cases q2 : E = N
        · exact .inl ⟨q1, q2, _, bsplit_some HCL.out (by rw [← q1, hpos, HN.out, q2]), by rw [← q1]; exact hrows m rfl⟩
        · refine .inr (.inl ⟨q1, decide_eq_false q2, nat_bne q2, bsplit_none HCL.out (by rw [← q1, hpos, HN.out]; simpa using q2)⟩)
      · refine .inr (.inr ⟨decide_eq_false q1, (by unfold bne; rw [nat_bne q1]; rfl), ?_⟩)
        exact bsplit_none HCL.out (by rw [bpos_up (bitem_none hlast) c0 (by omega)]; simp)
    have c1 : W.cell? ⟨r0 + 1, 0, none⟩ = some (.slice pw m cw) := by rw [cell_rowAt, ho1]; rfl
    have c2 : W.cell? ⟨r0 + 1 + 1, 0, none⟩ = some (.int .i64 (E : Nat)) := by rw [cell_rowAt, e4]; rfl
    have HD := Lib.hid HDD
    have GR := Lib.hid hI.gr
    have hNc : ¬ (c : Int) = 0 := by omega
    have hw0 : IntKind.i64.wrap (c0 : Int) = (c0 : Int) := by rw [IntKind.wrap_i64]; omega
    have hl4 := hI.lt
    have lt0 : r0 < W.heap.size := by omega
    have lt1 : r0 + 1 < W.heap.size := by omega
    have lt2 : r0 + 1 + 1 < W.heap.size := by omega
    have lt3 : b < W.heap.size := by omega
    have hDr : D ≠ r0 + 1 ∧ D < W.heap.size := ⟨by omega, (Array.getElem?_eq_some_iff.1 HDD).1⟩
    clear hI ho1 ho2 hm hE e4 HDD hseq hpos hrows
    rcases ht with ⟨rfl, rfl, rows, hrs, hro⟩ | ⟨rfl, t2, t3, hno⟩ | ⟨t1, t2, hno⟩
    · have RR := Lib.hid (And.intro hrs hro)
      clear hrs hro
      gi_wp2
      refine wpIn_wide.2 ?_
      first | refine wp_region_pure_lit_g (by kernel_rfl) (by kernel_rfl) ?_ | refine wp_region_pure_lit (by kernel_rfl) (by kernel_rfl) ?_
      repeat (go_big_quiet_step ((fail)))
      refine wpQuiet_nil ?_
      intro _ hw'
      obtain ⟨δ1, hw''⟩ := hw'
      subst hw''
      gi_wp2
      have hgr : Grew W (W.grow δ1) := ⟨δ1, rfl⟩
      have hD2 : (W.grow δ1).heap[D]? = some (.deferred (some [])) := (hgr.heap hDr.2).trans HD.out
      refine ⟨by simp, .inl ⟨_, _, rfl, run_takeDeferred hD2, ?_⟩⟩
      refine ⟨.tuple #[.slice pw m cw, .bool true], by simp [results, Try.results10, go_sem], .inr ⟨rows, _, RR.out.1, rfl, ?_⟩, ?_⟩
      · exact rowsat_turn (RR.out.2.grew hgr) (grownBy_putObj' _ D (.deferred none)) (fun r e => by cases e; exact ⟨_, hD2, rfl⟩)
      · exact (GR.out.trans hgr).grown (grownBy_putObj' _ D (.deferred none)) (fun k e => by cases e; have := HWR.out; omega)
    · have NO := Lib.hid hno
      clear hno
      gi_wp2
      refine wpIn_wide.2 ?_
      first | refine wp_region_pure_lit_g (by kernel_rfl) (by kernel_rfl) ?_ | refine wp_region_pure_lit (by kernel_rfl) (by kernel_rfl) ?_
      repeat (go_big_quiet_step ((fail)))
      refine wpQuiet_nil ?_
      intro _ hw'
      obtain ⟨δ1, hw''⟩ := hw'
      subst hw''
      gi_wp2
      have hgr : Grew W (W.grow δ1) := ⟨δ1, rfl⟩
      have hD2 : (W.grow δ1).heap[D]? = some (.deferred (some [])) := (hgr.heap hDr.2).trans HD.out
      refine ⟨by simp, .inl ⟨_, _, rfl, run_takeDeferred hD2, ?_⟩⟩
      refine ⟨.tuple #[.slice none 0 0, .bool false], by simp [results, Try.results10, go_sem], .inl ⟨NO.out, rfl⟩, ?_⟩
      exact (GR.out.trans hgr).grown (grownBy_putObj' _ D (.deferred none)) (fun k e => by cases e; have := HWR.out; omega)
    · have NO := Lib.hid hno
      clear hno
      gi_wp2
      refine wpIn_wide.2 ?_
      first | refine wp_region_pure_lit_g (by kernel_rfl) (by kernel_rfl) ?_ | refine wp_region_pure_lit (by kernel_rfl) (by kernel_rfl) ?_
      repeat (go_big_quiet_step ((fail)))
      refine wpQuiet_nil ?_
      intro _ hw'
      obtain ⟨δ1, hw''⟩ := hw'
      subst hw''
      gi_wp2
      have hgr : Grew W (W.grow δ1) := ⟨δ1, rfl⟩
      have hD2 : (W.grow δ1).heap[D]? = some (.deferred (some [])) := (hgr.heap hDr.2).trans HD.out
      refine ⟨by simp, .inl ⟨_, _, rfl, run_takeDeferred hD2, ?_⟩⟩
      refine ⟨.tuple #[.slice none 0 0, .bool false], by simp [results, Try.results10, go_sem], .inl ⟨NO.out, rfl⟩, ?_⟩
      exact (GR.out.trans hgr).grown (grownBy_putObj' _ D (.deferred none)) (fun k e => by cases e; have := HWR.out; omega)
  case stop =>
    rintro D c' pre W hD hSp ⟨rfl, ys, y0, rfl, hlen0, hI⟩ HDD
    have HF : ys.map (·.1) = List.range ys.length := by
      rw [List.map_append, List.length_append, List.length_singleton, List.range_succ] at hSp
      exact (List.append_inj' hSp rfl).1
    obtain ⟨ov, ho1, ho2⟩ := hI.o
    obtain ⟨pw, cw, hof⟩ := shows_form ho2.shows
    subst hof
    rw [List.length_map] at *
    have e1 := hI.x
    have e2 := hI.d
    have e4 := hI.e
    have hpos := endL_pos HF hI.sh
    have hrows := fun (q : Nat) (hq : ys.length = q) => cut_rows HF hq hI.sh ho2.shows
    obtain ⟨m, hm⟩ : ∃ m, ys.length = m := ⟨_, rfl⟩
    rw [hm] at ho1 hpos hrows
    obtain ⟨E, hE⟩ : ∃ E, endL l ys = E := ⟨_, rfl⟩
    rw [hE] at e4 hpos
    have ht : (m = c0 ∧ E = N ∧ ∃ rows, bsplit l = some rows ∧ RowsAt W (.slice pw m cw) rows) ∨ (m = c0 ∧ decide (E = N) = false ∧ ((E : Int) == (N : Int)) = false ∧ bsplit l = none) ∨ (decide (m = c0) = false ∧ ((m : Int) != (c0 : Int)) = true ∧ bsplit l = none) := by
      by_cases q1 : m = c0
      · by_cases q2 : E = N
        · exact .inl ⟨q1, q2, _, bsplit_some HCL.out (by rw [← q1, hpos, HN.out, q2]), by rw [← q1]; exact hrows m rfl⟩
        · refine .inr (.inl ⟨q1, decide_eq_false q2, nat_bne q2, bsplit_none HCL.out (by rw [← q1, hpos, HN.out]; simpa using q2)⟩)
      · refine .inr (.inr ⟨decide_eq_false q1, (by unfold bne; rw [nat_bne q1]; rfl), ?_⟩)
        exact absurd (hm.symm.trans hlen0) q1
    have c1 : W.cell? ⟨r0 + 1, 0, none⟩ = some (.slice pw m cw) := by rw [cell_rowAt, ho1]; rfl
    have c2 : W.cell? ⟨r0 + 1 + 1, 0, none⟩ = some (.int .i64 (E : Nat)) := by rw [cell_rowAt, e4]; rfl
    have HD := Lib.hid HDD
    have GR := Lib.hid hI.gr
    have hNc : ¬ (c : Int) = 0 := by omega
    have hw0 : IntKind.i64.wrap (c0 : Int) = (c0 : Int) := by rw [IntKind.wrap_i64]; omega
    have hl4 := hI.lt
    have lt0 : r0 < W.heap.size := by omega
    have lt1 : r0 + 1 < W.heap.size := by omega
    have lt2 : r0 + 1 + 1 < W.heap.size := by omega
    have lt3 : b < W.heap.size := by omega
    have hDr : D ≠ r0 + 1 ∧ D < W.heap.size := ⟨by omega, (Array.getElem?_eq_some_iff.1 HDD).1⟩
    clear hI ho1 ho2 hm hE e4 HDD hseq hpos hrows
    rcases ht with ⟨rfl, rfl, rows, hrs, hro⟩ | ⟨rfl, t2, t3, hno⟩ | ⟨t1, t2, hno⟩
    · have RR := Lib.hid (And.intro hrs hro)
      clear hrs hro
      gi_wp2
      refine wpIn_wide.2 ?_
      first | refine wp_region_pure_lit_g (by kernel_rfl) (by kernel_rfl) ?_ | refine wp_region_pure_lit (by kernel_rfl) (by kernel_rfl) ?_
      repeat (go_big_quiet_step ((fail)))
      refine wpQuiet_nil ?_
      intro _ hw'
      obtain ⟨δ1, hw''⟩ := hw'
      subst hw''
      gi_wp2
      have hgr : Grew W (W.grow δ1) := ⟨δ1, rfl⟩
      have hD2 : (W.grow δ1).heap[D]? = some (.deferred (some [])) := (hgr.heap hDr.2).trans HD.out
      refine ⟨by simp, .inl ⟨_, _, rfl, run_takeDeferred hD2, ?_⟩⟩
      refine ⟨.tuple #[.slice pw m cw, .bool true], by simp [results, Try.results10, go_sem], .inr ⟨rows, _, RR.out.1, rfl, ?_⟩, ?_⟩
      · exact rowsat_turn (RR.out.2.grew hgr) (grownBy_putObj' _ D (.deferred none)) (fun r e => by cases e; exact ⟨_, hD2, rfl⟩)
      · exact (GR.out.trans hgr).grown (grownBy_putObj' _ D (.deferred none)) (fun k e => by cases e; have := HWR.out; omega)
    · have NO := Lib.hid hno
      clear hno
      gi_wp2
      refine wpIn_wide.2 ?_
      first | refine wp_region_pure_lit_g (by kernel_rfl) (by kernel_rfl) ?_ | refine wp_region_pure_lit (by kernel_rfl) (by kernel_rfl) ?_
      repeat (go_big_quiet_step ((fail)))
      refine wpQuiet_nil ?_
      intro _ hw'
      obtain ⟨δ1, hw''⟩ := hw'
      subst hw''
      gi_wp2
      have hgr : Grew W (W.grow δ1) := ⟨δ1, rfl⟩
      have hD2 : (W.grow δ1).heap[D]? = some (.deferred (some [])) := (hgr.heap hDr.2).trans HD.out
      refine ⟨by simp, .inl ⟨_, _, rfl, run_takeDeferred hD2, ?_⟩⟩
      refine ⟨.tuple #[.slice none 0 0, .bool false], by simp [results, Try.results10, go_sem], .inl ⟨NO.out, rfl⟩, ?_⟩
      exact (GR.out.trans hgr).grown (grownBy_putObj' _ D (.deferred none)) (fun k e => by cases e; have := HWR.out; omega)
    · have NO := Lib.hid hno
      clear hno
      gi_wp2
      refine wpIn_wide.2 ?_
      first | refine wp_region_pure_lit_g (by kernel_rfl) (by kernel_rfl) ?_ | refine wp_region_pure_lit (by kernel_rfl) (by kernel_rfl) ?_
      repeat (go_big_quiet_step ((fail)))
      refine wpQuiet_nil ?_
      intro _ hw'
      obtain ⟨δ1, hw''⟩ := hw'
      subst hw''
      gi_wp2
      have hgr : Grew W (W.grow δ1) := ⟨δ1, rfl⟩
      have hD2 : (W.grow δ1).heap[D]? = some (.deferred (some [])) := (hgr.heap hDr.2).trans HD.out
      refine ⟨by simp, .inl ⟨_, _, rfl, run_takeDeferred hD2, ?_⟩⟩
      refine ⟨.tuple #[.slice none 0 0, .bool false], by simp [results, Try.results10, go_sem], .inl ⟨NO.out, rfl⟩, ?_⟩
      exact (GR.out.trans hgr).grown (grownBy_putObj' _ D (.deferred none)) (fun k e => by cases e; have := HWR.out; omega)
theorem split_w (l : List Nat) (p : Option Addr) (c : Nat) (w : World) (hb : ∀ x ∈ l, x < 256) (hv : Shows w (.slice p l.length c) (bys l)) (hc : l.length ≤ c) (hl : l.length ≤ 1000000) :
    Calls Try.prog 10 #[.slice p l.length c] w fun e w' => SplitP l e w' ∧ Grew w w' := by
  rcases Nat.eq_zero_or_pos l.length with h0 | h0
  · obtain rfl : l = [] := List.length_eq_zero_iff.1 h0
    simp only [List.length_nil]
    clear hv hc hl hb h0
    go_enter Try.func10, Try.ntmps10
    go_wp2
    refine bodyPost_ret (v := .tuple #[.slice none 0 0, .bool false]) (by simp [results, Try.results10, go_sem]) rfl ⟨.inl ⟨rfl, rfl⟩, (by repeat (first | with_reducible exact Grew.refl _ | with_reducible apply Grew.alloc | with_reducible apply Grew.grow | with_reducible apply Grew.drew | with_reducible apply Grew.drewN))⟩
  · exact (callsIn_wide (n := 6)).1 (split_in 6 (Nat.le_refl _) l p c w hb hv hc hl h0)
end Go.Proofs.Ytccadhfeiehmbaa
/- The chapter's examples hold; the law's small. -/
namespace Go.Proofs.Ytccadhfeiehmbaa
open Go.RowKit
set_option maxRecDepth 100000
set_option linter.unusedVariables false
set_option linter.unusedSimpArgs false
theorem split4 : bsplit [1, 0, 1, 9] = some [[9]] := by decide +kernel
/-- One cell of what is shown. -/
theorem shows_cell {w : World} {p : Option Addr} {n c k : Nat} {xs : List Value} {u : Value} (h : Shows w (.slice p n c) xs) (hk : xs[k]? = some u) : ∃ b o, p = some ⟨b, o, none⟩ ∧ b < w.heap.size ∧ w.cell? ⟨b, o + k, none⟩ = some u := by
  rcases h with ⟨b, o, c', he, hb, hat⟩ | ⟨p', c', he, h0⟩
  · simp only [Value.slice.injEq] at he
    exact ⟨b, o, he.1, hb, hat k u hk⟩
  · rw [h0] at hk; cases hk
set_option maxHeartbeats 6400000 in
theorem awake_w (w : World) : Calls Try.prog 5 #[] w fun e w' => e = .returned (.bool true) ∧ Grew w w' := by
  go_enter Try.func5, Try.ntmps5
  go_wp2_with (go_at_call 6; refine stop_of ?_)
  unfold Stop
  have e1 : putL 258 2 = [1, 2] := by decide
  refine (put_w 258 2 (by omega) (by omega) w).mono ?_
  rintro e W1 ⟨cap, rfl, ho, hg⟩
  rw [e1] at ho
  have hcap : 2 ≤ cap := by
    rcases ho.2 with ⟨h, _⟩ | ⟨g, c, cur, h, _, _, hn, _⟩
    · cases h
    · simp only [Value.slice.injEq] at h
      obtain ⟨_, _, rfl⟩ := h
      exact hn
  obtain ⟨g, hgg⟩ : ∃ g, w.heap.size = g := ⟨_, rfl⟩
  rw [hgg] at ho ⊢
  have S1 := Lib.hid (show Shows W1 (.slice (some ⟨g, 0, none⟩) 2 cap) (bys [1, 2]) from ho.shows)
  have G1 := Lib.hid hg
  have CG := Lib.hid (show ∀ W, Shows W (.slice (some ⟨g, 0, none⟩) 2 cap) (bys [1, 2]) → Calls Try.prog 7 #[.slice (some ⟨g, 0, none⟩) 2 cap, .int .i64 0, .int .i64 2] W fun e w' => e = .returned (.tuple #[.int .u64 258, .bool true]) ∧ Grew W w' from fun W s => by
    have := get_w [1, 2] (some ⟨g, 0, none⟩) cap 0 2 W (by decide) s hcap (by decide)
    rw [show getN [1, 2] 0 2 = 258 by decide, show getOk ([1, 2] : List Nat).length 0 2 = true by decide] at this
    exact this)
  have hcI : (2 : Int) ≤ (cap : Int) := by omega
  clear ho hg hgg e1
  go_wp2_with (go_at_call 7; refine stop_of ?_)
  unfold Stop
  refine (CG.out W1 S1.out).mono ?_
  rintro e W2 ⟨rfl, hg⟩
  have S2 := Lib.hid (S1.out.grew hg)
  have G2 := Lib.hid (G1.out.trans hg)
  clear hg S1 G1 CG
  go_wp2_with (go_at_call 9; refine stop_of ?_)
  unfold Stop
  refine (rows_w [] (.slice none 0 0) W2 (by decide) (by simp) ⟨[], rfl, .inr ⟨_, _, rfl, rfl⟩, by simp⟩).mono ?_
  rintro e W3 ⟨v2, rfl, ho, hg⟩
  have S3 := Lib.hid (S2.out.grew hg)
  have G3 := Lib.hid (G2.out.trans hg)
  obtain ⟨p2, c2, rfl⟩ := shows_form ho.shows
  have T3 := Lib.hid (show Shows W3 (.slice p2 1 c2) (bys [0]) from ho.shows)
  rw [show (bys (rowsL [])).length = 1 from rfl]
  clear ho hg S2 G2
  go_wp2_with (go_at_call 10; refine stop_of ?_)
  unfold Stop
  have sb : Shows (W3.alloc (.cells #[.int .u8 1, .int .u8 0, .int .u8 1, .int .u8 9] 5)) (.slice (some ⟨W3.heap.size, 0, none⟩) 4 4) (bys [1, 0, 1, 9]) :=
    (own_alloc W3 W3.heap.size 5 (bys [1, 0, 1, 9]) (Nat.le_refl _) (by simp [maxLen, bys])).shows
  refine (split_w [1, 0, 1, 9] (some ⟨W3.heap.size, 0, none⟩) 4 _ (by decide) sb (by decide) (by decide)).mono ?_
  rintro e W4 ⟨⟨hn, _⟩ | ⟨rows, v, hr, rfl, hra⟩, hg⟩
  · rw [split4] at hn; cases hn
  rw [split4] at hr
  cases hr
  have g34 : Grew W3 W4 := (show Grew W3 _ from (by repeat (first | with_reducible exact Grew.refl _ | with_reducible apply Grew.alloc | with_reducible apply Grew.grow | with_reducible apply Grew.drew | with_reducible apply Grew.drewN))).trans hg
  have G4 := Lib.hid (G3.out.trans g34)
  obtain ⟨vs, hv1, hv2, hv3⟩ := hra
  obtain ⟨p3, c3, rfl⟩ := shows_form hv2
  rw [hv1] at hv2 ⊢
  obtain ⟨u, hu⟩ : ∃ u, vs = [u] := by
    match vs, hv1 with
    | [u], _ => exact ⟨u, rfl⟩
  subst hu
  have h3 := hv3 0 (by simp)
  have h3 : Shows W4 u (bys [9]) := h3
  obtain ⟨p4, c4, rfl⟩ := shows_form h3
  obtain ⟨b3, o3, rfl, l3, k3⟩ := shows_cell (k := 0) hv2 rfl
  obtain ⟨b4, o4, rfl, l4, k4⟩ := shows_cell (k := 0) (p := p4) h3 rfl
  obtain ⟨b2, o2, rfl, l2, k2⟩ := shows_cell (k := 0) (T3.out.grew g34) rfl
  obtain ⟨b1, o1, he, l1, k1⟩ := shows_cell (k := 0) (S3.out.grew g34) rfl
  obtain ⟨b1', o1', he', l1', k1'⟩ := shows_cell (k := 1) (S3.out.grew g34) rfl
  simp only [Option.some.injEq, Addr.mk.injEq] at he he'
  obtain ⟨rfl, rfl, -⟩ := he
  obtain ⟨rfl, rfl, -⟩ := he'
  simp only [Nat.add_zero, Nat.zero_add] at k1 k1' k2 k3 k4
  simp only [List.length_cons, List.length_nil, Nat.zero_add, bys_len]
  simp only [bys_len, List.length_cons, List.length_nil, Nat.zero_add] at k3
  clear hv1 hv2 hv3 h3 sb hg g34 S3 T3 G3
  go_wp2
  go_ret
  exact ⟨rfl, G4.out⟩
/-- Are there few, and short ones? -/
def fewL (ls : List (List Nat)) : Bool := decide (ls.length ≤ 300) && ls.all (fun l => decide (l.length ≤ 400))
theorem fewL_iff (ls : List (List Nat)) : fewL ls = true ↔ ls.length ≤ 300 ∧ ∀ l ∈ ls, l.length ≤ 400 := by simp [fewL]
set_option maxHeartbeats 3200000 in
theorem small_w (ls : List (List Nat)) (q : Option Addr) (c : Nat) (w : World) (hm : ls.length ≤ maxLen ∧ ∀ l ∈ ls, l.length ≤ maxLen) (hs : RowsAt w (.slice q ls.length c) ls) :
    Calls Try.prog 8 #[.slice q ls.length c] w fun e w' => e = .returned (.bool (fewL ls)) ∧ Grew w w' := by
  obtain ⟨vs, hv1, hv2, hv3⟩ := hs
  have HV := Lib.hid (And.intro hv1 (And.intro hv2 hv3))
  have HM := Lib.hid hm.2
  have hm1 := hm.1
  obtain ⟨N, hN⟩ : ∃ N, ls.length = N := ⟨_, rfl⟩
  have HN := Lib.hid hN
  rw [hN] at hm1 ⊢
  simp only [maxLen] at hm1
  clear hv1 hv2 hv3 hm hN
  go_enter Try.func8, Try.ntmps8
  go_wp2
  go_loopw [3] (fun i wr => ∃ k : Nat, k ≤ N ∧ i = .int .i64 k ∧ wr = w ∧ ∀ j, j < k → (ls.getD j []).length ≤ 400) (fun i _ => N - (intOf i).toNat)
  case atStart => exact ⟨0, by omega, rfl, rfl, by omega⟩
  case round =>
    obtain ⟨k, hk, rfl, rfl, hall⟩ := hrel
    have HA := Lib.hid hall
    clear hall
    by_cases hlt : k < N
    · have h1 : (k : Int) < (N : Int) := by omega
      have hrow := HV.out.2.2 k (by rw [HN.out]; exact hlt)
      obtain ⟨u, hu⟩ : ∃ u, vs.getD k undef = u := ⟨_, rfl⟩
      obtain ⟨x, hx⟩ : ∃ x, ls.getD k [] = x := ⟨_, rfl⟩
      rw [hu, hx] at hrow
      obtain ⟨pu, cu, rfl⟩ := shows_form hrow
      rw [bys_len] at hu
      obtain ⟨M, hM⟩ : ∃ M, x.length = M := ⟨_, rfl⟩
      rw [hM] at hu
      obtain ⟨b, o, rfl, hbw, hcell⟩ := row_at HV.out.1 HV.out.2.1 k (by rw [HN.out]; exact hlt)
      rw [hu] at hcell
      have hxm : x ∈ ls := by
        rw [← hx, List.getD, List.getElem?_eq_getElem (by rw [HN.out]; exact hlt)]
        exact List.getElem_mem _
      have hM2 := HM.out x hxm
      rw [hM] at hM2
      simp only [maxLen] at hM2
      have HX := Lib.hid (And.intro hx hM)
      have HXM := Lib.hid hxm
      clear hx hu hrow hxm hM
      by_cases h4 : M ≤ 400
      · have h5 : (M : Int) ≤ 400 := by omega
        go_wp2
        refine ⟨⟨k + 1, by omega, by go_num, (by first | rfl | trivial), fun j hj => ?_⟩, by simp only [intOf]; omega⟩
        rcases Nat.lt_or_eq_of_le (Nat.le_of_lt_succ hj) with h | rfl
        · exact HA.out j h
        · rw [HX.out.1, HX.out.2]; exact h4
      · have h5 : (400 : Int) < (M : Int) := by omega
        have hf : fewL ls = false := by
          rw [Bool.eq_false_iff]
          intro h
          have := ((fewL_iff ls).1 h).2 x HXM.out
          rw [HX.out.2] at this
          omega
        have HF := Lib.hid hf
        clear hf
        go_wp2
        go_ret
        rw [HF.out]
        exact ⟨rfl, Grew.refl _⟩
    · obtain rfl : k = N := by omega
      have hf : fewL ls = decide ((k : Int) ≤ 300) := by
        rw [Bool.eq_iff_iff, fewL_iff, decide_eq_true_eq, HN.out]
        refine ⟨fun h => by omega, fun h => ⟨by omega, fun l hl => ?_⟩⟩
        obtain ⟨j, hj, rfl⟩ := List.getElem_of_mem hl
        have := HA.out j (by rw [HN.out] at hj; exact hj)
        rwa [List.getD, List.getElem?_eq_getElem hj] at this
      have HF := Lib.hid hf
      clear hf
      go_wp2
      go_ret
      rw [HF.out]
      exact ⟨rfl, Grew.refl _⟩
end Go.Proofs.Ytccadhfeiehmbaa
