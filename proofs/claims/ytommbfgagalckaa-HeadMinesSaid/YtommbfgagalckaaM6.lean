/- What the statements of this chapter rest on, part 6. Conditions: none. -/
import Derived.RangeFuncNested
import Derived.Test.YtommbfgagalckaaM5
/- head's reader: take, number, id. -/
namespace Go.Proofs.Ytommbfgagalckaa
open Go.RowKit
set_option maxRecDepth 100000
set_option linter.unusedVariables false
set_option linter.unusedSimpArgs false
theorem grew_by {w w' : World} (h : Grew w w') (row : Option Nat) : w.grownBy w' row := by
  obtain ⟨δ, rfl⟩ := h
  exact ⟨rfl, rfl, rfl, by rw [size_grow]; omega, fun k hk _ => heap_grow_old w δ k hk⟩
/-- What a reader has still to read. -/
structure Rdr (W : World) (g : Nat) (l : List Nat) : Prop where
  row : ∃ b o c, W.rowAt g = #[.slice (some ⟨b, o, none⟩) l.length c] ∧ l.length ≤ c ∧ b < g ∧ ∀ j u, (bys l)[j]? = some u → W.cell? ⟨b, o + j, none⟩ = some u
  free : W.rowFree g = true
  lt : g < W.heap.size
theorem Rdr.grew {W W' : World} {g : Nat} {l : List Nat} (h : Rdr W g l) (hg : Grew W W') : Rdr W' g l := by
  obtain ⟨⟨b, o, c, h1, h2, h3, h4⟩, h5, h6⟩ := h
  have e : W'.heap[g]? = W.heap[g]? := hg.heap h6
  exact ⟨⟨b, o, c, (rowAt_of_heap e).trans h1, h2, h3, fun j u hj => hg.cell (h4 j u hj)⟩, (rowFree_of_heap e).trans h5, Nat.lt_of_lt_of_le h6 hg.size⟩
theorem Rdr.kept {W W' : World} {g k : Nat} {l : List Nat} (h : Rdr W g l) (hg : W.grownBy W' (some k)) (hk : g < k) : Rdr W' g l := by
  obtain ⟨⟨b, o, c, h1, h2, h3, h4⟩, h5, h6⟩ := h
  have e : W'.heap[g]? = W.heap[g]? := hg.block g h6 (fun e => by cases e; omega)
  exact ⟨⟨b, o, c, (rowAt_of_heap e).trans h1, h2, h3, fun j u hj => (World.cell?_of_block (a := ⟨b, o + j, none⟩) (hg.block b (Nat.lt_trans h3 h6) (fun e => by cases e; omega))).trans (h4 j u hj)⟩, (rowFree_of_heap e).trans h5, Nat.lt_of_lt_of_le h6 hg.size⟩
theorem cell_setRow_ne' (W : World) (g : Nat) (C : Array Value) (p : Addr) (h : p.block ≠ g) : (W.setRow g C).cell? p = W.cell? p :=
  World.cell?_of_block (World.heap_setRow_ne W g C p.block (fun e => h e.symm))
set_option maxHeartbeats 3200000 in
theorem take_w (l : List Nat) (g n : Nat) (W : World) (hr : Rdr W g l) (hn : n ≤ l.length) (hl : l.length ≤ 1000000) :
    Calls Try.prog 58 #[.pointer (some ⟨g, 0, none⟩), .int .i64 (n : Int)] W fun e W' =>
      ∃ b o c, e = .returned (.slice (some ⟨b, o, none⟩) n c) ∧ n ≤ c ∧ b < W'.heap.size ∧ (∀ j u, (bys (l.take n))[j]? = some u → W'.cell? ⟨b, o + j, none⟩ = some u) ∧ Rdr W' g (l.drop n) ∧ W.grownBy W' (some g) := by
  obtain ⟨⟨b, o, c, h1, h2, h3, h4⟩, h5, h6⟩ := hr
  have c0 : W.cell? ⟨g, 0, none⟩ = some (.slice (some ⟨b, o, none⟩) l.length c) := by rw [cell_rowAt, h1]; rfl
  have htk : ∀ j u, (bys (l.take n))[j]? = some u → (bys l)[j]? = some u := fun j u hj => by
    have hj2 : j < n := by have := (List.getElem?_eq_some_iff.1 hj).1; rw [bys_len, List.length_take] at this; omega
    rw [show bys (l.take n) = (bys l).take n by simp [bys, List.map_take], List.getElem?_take, if_pos hj2] at hj
    exact hj
  have hdr : ∀ j u, (bys (l.drop n))[j]? = some u → (bys l)[n + j]? = some u := fun j u hj => by
    rw [show bys (l.drop n) = (bys l).drop n by simp [bys, List.map_drop], List.getElem?_drop] at hj
    exact hj
  have fin : ∀ (q : Addr) (hq : q.block = b) (ha : ∀ j u, (bys (l.drop n))[j]? = some u → q = ⟨b, o + n, none⟩) (hp : ∃ o', q = ⟨b, o', none⟩), 
      (∀ j u, (bys (l.take n))[j]? = some u → (W.setRow g #[.slice (some q) (l.length - n) (c - n)]).cell? ⟨b, o + j, none⟩ = some u) ∧ Rdr (W.setRow g #[.slice (some q) (l.length - n) (c - n)]) g (l.drop n) ∧ W.grownBy (W.setRow g #[.slice (some q) (l.length - n) (c - n)]) (some g) := fun q hq ha hp => by
    have hne : b ≠ g := by omega
    refine ⟨fun j u hj => by rw [cell_setRow_ne' _ _ _ _ hne]; exact h4 j u (htk j u hj), ⟨?_, rowFree_setRow_free _ _ _ h5, by rw [setRow_size]; exact h6⟩, grownBy_setRow _ _ _⟩
    obtain ⟨o', rfl⟩ := hp
    refine ⟨b, o', c - n, by rw [rowAt_setRow_free _ _ _ h5, List.length_drop], by rw [List.length_drop]; omega, h3, fun j u hj => ?_⟩
    rw [cell_setRow_ne' _ _ _ _ hne]
    have e := ha j u hj
    simp only [Addr.mk.injEq, true_and, and_true] at e
    subst e
    have := h4 (n + j) u (hdr j u hj)
    rwa [← Nat.add_assoc] at this
  have hnc : n ≤ c := Nat.le_trans hn h2
  have hbs : b < W.heap.size := Nat.lt_trans h3 h6
  have HF := Lib.hid fin
  have LN : (l.length : Int) ≤ 1000000 := by omega
  obtain ⟨L, hL⟩ : ∃ L, l.length = L := ⟨_, rfl⟩
  rw [hL] at c0 hn hl h1 HF h2 LN
  have HI := Lib.hid hbs
  have HC := Lib.hid hnc
  have hfz : W.frozen? ⟨g, 0, none⟩ = false := (there_row h5 (o := 0) (n := 1) (by rw [h1]; simp) 0 (by omega)).2
  have eS : ∀ v : Value, W.setCell ⟨g, 0, none⟩ v = W.setRow g #[v] := fun v => by
    have h2 := setCell_setRow_free W g (W.rowAt g) h5 0 v
    rw [setRow_same' _ _ h5] at h2
    rw [h2, h1]; rfl
  have ES := Lib.hid eS
  have SZ := Lib.hid (setRow_size W g)
  by_cases hcn : c = n
  · have hLn : L = n := by omega
    have HF1 := Lib.hid (HF.out ⟨b, o, none⟩ rfl (fun j u hj => by
      rw [List.drop_of_length_le (by omega)] at hj; simp [bys] at hj) ⟨o, rfl⟩)
    clear fin h4 htk hdr hbs eS HF
    subst hcn hLn
    simp only [Nat.sub_self] at HF1
    go_enter Try.func58, Try.ntmps58
    go_wp2
    rw [ES.out]
    go_ret
    exact ⟨b, o, L, rfl, Nat.le_refl _, by rw [SZ.out]; exact HI.out, HF1.out.1, HF1.out.2.1, HF1.out.2.2⟩
  · have HF1 := Lib.hid (HF.out ⟨b, o + n, none⟩ rfl (fun j u hj => rfl) ⟨o + n, rfl⟩)
    clear fin h4 htk hdr hbs eS HF
    go_enter Try.func58, Try.ntmps58
    go_wp2
    rw [ES.out]
    go_ret
    exact ⟨b, o, c, rfl, HC.out, by rw [SZ.out]; exact HI.out, HF1.out.1, HF1.out.2.1, HF1.out.2.2⟩
set_option maxHeartbeats 3200000 in
theorem number_w (l : List Nat) (g n : Nat) (W : World) (hr : Rdr W g l) (hb : ∀ x ∈ l, x < 256) (hn : n ≤ l.length) (h8 : n ≤ 8) (hl : l.length ≤ 1000000) :
    Calls Try.prog 32 #[.pointer (some ⟨g, 0, none⟩), .int .i64 (n : Int)] W fun e W' =>
      e = .returned (.int .u64 (numL (l.take n) : Nat)) ∧ Rdr W' g (l.drop n) ∧ W.grownBy W' (some g) := by
  have HR := Lib.hid hr
  have HB := Lib.hid hb
  clear hr hb
  have hlen : (l.take n).length = n := by rw [List.length_take]; omega
  have ok : getOk (l.take n).length 0 n = true := by unfold getOk; rw [hlen]; exact decide_eq_true (by omega)
  have eN : getN (l.take n) 0 n = numL (l.take n) := by
    unfold getN; rw [if_pos ok]
    simp only [Int.toNat_zero, List.drop_zero, Int.toNat_natCast]
    rw [List.take_take, Nat.min_self]
  have OK := Lib.hid (And.intro ok (And.intro eN hlen))
  clear ok eN hlen
  go_enter Try.func32, Try.ntmps32
  go_wp2_with (go_at_call 58; refine stop_of ?_)
  unfold Stop
  refine (take_w l g n _ HR.out hn hl).mono ?_
  rintro e W1 ⟨b, o, c, rfl, hc, hbs, hcell, hr1, hgb⟩
  have s1 : Shows W1 (.slice (some ⟨b, o, none⟩) (l.take n).length c) (bys (l.take n)) := .inl ⟨b, o, c, by rw [bys_len], hbs, hcell⟩
  have S1 := Lib.hid s1
  have R1 := Lib.hid hr1
  have G1 := Lib.hid hgb
  have HC := Lib.hid hc
  clear s1 hr1 hgb hc hcell hbs
  go_wp2_with (go_at_call 57; refine stop_of ?_)
  unfold Stop
  have gw := get_w (l.take n) (some ⟨b, o, none⟩) c 0 n W1 (fun x hx => HB.out x (List.mem_of_mem_take hx)) S1.out (by rw [OK.out.2.2]; exact HC.out) (by rw [OK.out.2.2]; omega)
  rw [OK.out.2.2, OK.out.2.1] at gw
  have ok2 := OK.out.1
  rw [OK.out.2.2] at ok2
  rw [ok2] at gw
  refine gw.mono ?_
  rintro e W2 ⟨rfl, hg⟩
  have R2 := Lib.hid (R1.out.grew hg)
  have G2 := Lib.hid (G1.out.trans (grew_by hg _))
  clear gw hg ok2
  go_wp2
  go_ret
  exact ⟨rfl, R2.out, G2.out⟩
/-- Bytes as an array. -/
def arrAt (x : Value) : Sem Next := do let v ← Instr.arrayAt 23 x; pure (.value v)
section
variable (ρ : Operand → Value) (d : Option Tmp) (x y : Operand) (t : TypeId) (p : String) (a : Array Edge) (g : Option (Nat × Bool))
@[go_sem ↓] theorem ex_arrAt : execOp ρ ⟨d, .sliceToArrayPointer 23 x, t, p, a, g⟩ = arrAt (ρ x) := by simp [execOp, arrAt]
end
@[go_sem] theorem run_arrAt (b : Option Addr) (n c : Nat) (hn : 32 ≤ n) (w : World) : (arrAt (.slice b n c)).run Try.prog w = .ok (.value (.pointer b)) w := by
  unfold arrAt Instr.arrayAt
  simp only [Sem.run_bind, run_underlying under_id w, Result.andThen_ok]
  rw [if_neg (by omega)]
  rfl
set_option maxHeartbeats 3200000 in
theorem id_w (l : List Nat) (g : Nat) (W : World) (hr : Rdr W g l) (hb : ∀ x ∈ l, x < 256) (hn : 32 ≤ l.length) (hl : l.length ≤ 1000000) :
    Calls Try.prog 33 #[.pointer (some ⟨g, 0, none⟩)] W fun e W' =>
      e = .returned (.agg (iv (Idb.of (l.take 32)).l)) ∧ Rdr W' g (l.drop 32) ∧ W.grownBy W' (some g) := by
  have HR := Lib.hid hr
  have hlen : (l.take 32).length = 32 := by rw [List.length_take]; omega
  have e32 : (Idb.of (l.take 32)).l = l.take 32 := Idb.of_l hlen (fun x hx => hb x (List.mem_of_mem_take hx))
  rw [e32]
  have HL := Lib.hid hlen
  clear hr hb e32 hlen
  have glt := HR.out.lt
  go_enter Try.func33, Try.ntmps33
  go_wp2_with (go_at_call 58; refine stop_of ?_)
  unfold Stop
  refine (take_w l g 32 _ (HR.out.grew (by repeat (first | with_reducible exact Grew.refl _ | with_reducible apply Grew.alloc | with_reducible apply Grew.grow | with_reducible apply Grew.drew | with_reducible apply Grew.drewN))) hn hl).mono ?_
  rintro e W1 ⟨b, o, c, rfl, hc, hbs, hcell, hr1, hgb⟩
  have hra : W1.rowAt W.heap.size = iv id0 := by
    rw [rowAt_of_heap (hgb.block W.heap.size (by simp) (by simp; omega))]; simp [go_sem]
  have hfr : W1.rowFree W.heap.size = true := by
    rw [rowFree_of_heap (hgb.block W.heap.size (by simp) (by simp; omega))]; simp [go_sem]
  have g1 : W.grownBy W1 (some g) := (grew_by (show Grew W _ from (by repeat (first | with_reducible exact Grew.refl _ | with_reducible apply Grew.alloc | with_reducible apply Grew.grow | with_reducible apply Grew.drew | with_reducible apply Grew.drewN))) _).trans hgb
  have hrg : W1.rangeAt b o (bys (l.take 32)) := fun j u hj => hcell j u hj
  have hld := load_part (w := W1) (g := b) (o := o) (cs := bys (l.take 32)) (by rw [bys_len]; exact HL.out) hrg
  have hlen := HL.out
  have R1 := Lib.hid hr1
  have G1 := Lib.hid g1
  clear hr1 hgb hcell hbs hrg
  rw [show (bys (l.take 32)).toArray = iv (l.take 32) from rfl] at hld
  go_wp2
  have G2 : W1.grownBy (W1.setRow W.heap.size (iv (l.take 32))) (some W.heap.size) := grownBy_setRow _ _ _
  refine bodyPost_ret (v := .agg (iv (l.take 32))) (id_result Try.results33 _ rfl (by simp [go_sem, hfr]) hlen) rfl ⟨rfl, ?_, ?_⟩
  · exact R1.out.kept G2 glt
  · exact G1.out.andThen G2 (fun j hj => .inl (by cases hj; exact Nat.le_refl _))
end Go.Proofs.Ytommbfgagalckaa
/- head.Read. -/
namespace Go.Proofs.Ytommbfgagalckaa
open Go.RowKit
set_option maxRecDepth 100000
set_option linter.unusedVariables false
set_option linter.unusedSimpArgs false
attribute [local go_sem] setRow_setRow
/-- What is read, or nothing. -/
noncomputable def hrd (l : List Nat) : Hd := (hread l).getD Hd.zero
theorem number_at (l : List Nat) (k n : Nat) (g : Nat) (W : World) (hr : Rdr W g (l.drop k)) (hb : ∀ x ∈ l, x < 256) (hn : k + n ≤ l.length) (h8 : n ≤ 8) (hl : l.length ≤ 1000000) :
    Calls Try.prog 32 #[.pointer (some ⟨g, 0, none⟩), .int .i64 (n : Int)] W fun e W' =>
      e = .returned (.int .u64 (numL (cutL l k n) : Nat)) ∧ Rdr W' g (l.drop (k + n)) ∧ W.grownBy W' (some g) := by
  have := number_w (l.drop k) g n W hr (fun x hx => hb x (List.mem_of_mem_drop hx)) (by rw [List.length_drop]; omega) h8 (by rw [List.length_drop]; omega)
  rwa [List.drop_drop] at this
theorem id_at (l : List Nat) (k : Nat) (g : Nat) (W : World) (hr : Rdr W g (l.drop k)) (hb : ∀ x ∈ l, x < 256) (hn : k + 32 ≤ l.length) (hl : l.length ≤ 1000000) :
    Calls Try.prog 33 #[.pointer (some ⟨g, 0, none⟩)] W fun e W' =>
      e = .returned (.agg (iv (Idb.of (cutL l k 32)).l)) ∧ Rdr W' g (l.drop (k + 32)) ∧ W.grownBy W' (some g) := by
  have := id_w (l.drop k) g W hr (fun x hx => hb x (List.mem_of_mem_drop hx)) (by rw [List.length_drop]; omega) (by rw [List.length_drop]; omega)
  rwa [List.drop_drop] at this
/-- Where a reading stands. -/
structure RdS (w W : World) (R : Nat) (l : List Nat) (C : Array Value) : Prop where
  rd : Rdr W (R + 1) l
  hd : W.rowAt (R + 1 + 1) = C
  free : W.rowFree (R + 1 + 1) = true
  lt : R + 1 + 1 < W.heap.size
  r : W.rowAt R = hda 0 id0 id0 id0 id0 0 0 0
  rfree : W.rowFree R = true
  at_ : w.heap.size = R
  gr : Grew w W
theorem RdS.call {w W W' : World} {R : Nat} {l l' : List Nat} {C : Array Value} (h : RdS w W R l C) (hr : Rdr W' (R + 1) l') (hg : W.grownBy W' (some (R + 1))) : RdS w W' R l' C := by
  obtain ⟨h1, h2, h3, h4, h6, h7, h8, h9⟩ := h
  have e1 : W'.heap[R + 1 + 1]? = W.heap[R + 1 + 1]? := hg.block _ h4 (fun e => by cases e)
  have e2 : W'.heap[R]? = W.heap[R]? := hg.block _ (by omega) (fun e => by have := Option.some.inj e; omega)
  exact ⟨hr, (rowAt_of_heap e1).trans h2, (rowFree_of_heap e1).trans h3, Nat.lt_of_lt_of_le h4 hg.size, (rowAt_of_heap e2).trans h6, (rowFree_of_heap e2).trans h7, h8, h9.grown hg (fun k hk => by cases hk; omega)⟩
theorem RdS.set {w W : World} {R : Nat} {l : List Nat} {C : Array Value} (h : RdS w W R l C) (C' : Array Value) : RdS w (W.setRow (R + 1 + 1) C') R l C' := by
  obtain ⟨h1, h2, h3, h4, h6, h7, h8, h9⟩ := h
  have hg := grownBy_setRow W (R + 1 + 1) C'
  have e2 : (W.setRow (R + 1 + 1) C').heap[R]? = W.heap[R]? := World.heap_setRow_ne _ _ _ _ (by omega)
  exact ⟨h1.kept hg (by omega), rowAt_setRow_free _ _ _ h3, rowFree_setRow_free _ _ _ h3, by rw [setRow_size]; exact h4, (rowAt_of_heap e2).trans h6, (rowFree_of_heap e2).trans h7, h8, h9.grown hg (fun k hk => by cases hk; omega)⟩
theorem RdS.grew {w W W' : World} {R : Nat} {l : List Nat} {C : Array Value} (h : RdS w W R l C) (hg : Grew W W') : RdS w W' R l C := h.call (h.rd.grew hg) (grew_by hg _)
theorem RdS.fz {w W : World} {R : Nat} {l : List Nat} {C : Array Value} (h : RdS w W R l C) (hC : C.size = 135) (k : Nat) (hk : k < 135) : W.frozen? ⟨R + 1 + 1, k, none⟩ = false := by
  have := (there_row h.free (o := k) (n := 1) (by rw [h.hd]; omega) 0 (by omega)).2
  rwa [Nat.add_zero] at this
theorem RdS.cell {w W : World} {R : Nat} {l : List Nat} {C : Array Value} (h : RdS w W R l C) (k : Nat) : W.cell? ⟨R + 1 + 1, k, none⟩ = C[k]? := by rw [cell_rowAt, h.hd]
theorem RdS.put {w W : World} {R : Nat} {l : List Nat} {C : Array Value} (h : RdS w W R l C) (k : Nat) (v : Value) : RdS w (W.setCell ⟨R + 1 + 1, k, none⟩ v) R l (C.setIfInBounds k v) := by
  have h2 := setCell_setRow_free W (R + 1 + 1) (W.rowAt (R + 1 + 1)) h.free k v
  rw [setRow_same' _ _ h.free, h.hd] at h2
  rw [h2]
  exact h.set _
theorem hread_short (l : List Nat) (p : Option Addr) (c : Nat) (w : World) (h176 : l.length ≠ 176) (hl : l.length ≤ 1000000) :
    Calls Try.prog 11 #[.slice p l.length c] w fun e w' => e = .returned (.tuple #[.agg (hda 0 id0 id0 id0 id0 0 0 0), .bool false]) ∧ Grew w w' := by
  have hlI : (l.length : Int) ≤ 1000000 := by omega
  have hne : ¬ (l.length : Int) = 176 := by omega
  obtain ⟨L, hL⟩ : ∃ L, l.length = L := ⟨_, rfl⟩
  rw [hL] at hlI hne ⊢
  clear h176 hl hL
  have z := id0_len
  go_enter Try.func11, Try.ntmps11
  go_wp2
  refine bodyPost_ret (v := .tuple #[.agg (hda 0 id0 id0 id0 id0 0 0 0), .bool false]) (head_slot_result Try.results11 _ rfl rfl (by simp [go_sem]) (hda_size _ _ _ _ _ _ _ _ z z z z)) rfl ⟨rfl, ?_⟩
  exact (by repeat (first | with_reducible exact Grew.refl _ | with_reducible apply Grew.alloc | with_reducible apply Grew.grow | with_reducible apply Grew.drew | with_reducible apply Grew.drewN))
set_option maxHeartbeats 6400000 in
theorem hread_long (l : List Nat) (b o : Nat) (c : Nat) (w : World) (h176 : l.length = 176) (hb : ∀ x ∈ l, x < 256) (hc : 176 ≤ c) (hbs : b < w.heap.size) (hcell : ∀ j u, (bys l)[j]? = some u → w.cell? ⟨b, o + j, none⟩ = some u) :
    Calls Try.prog 11 #[.slice (some ⟨b, o, none⟩) 176 c] w fun e w' => e = .returned (.tuple #[(hrd l).v, .bool (hread l).isSome]) ∧ Grew w w' := by
  have z := id0_len
  have HB := Lib.hid hb
  have H1 := Lib.hid h176
  have HC := Lib.hid (And.intro hc (And.intro hbs hcell))
  clear hb h176 hc hbs hcell
  go_enter Try.func11, Try.ntmps11
  go_wp2_with (go_at_call 32; refine stop_of ?_)
  unfold Stop
  refine Calls_abs ?_
  intro Z hZ
  obtain ⟨R, hR⟩ : ∃ R, w.heap.size = R := ⟨_, rfl⟩
  have st : RdS w Z R l (hda 0 id0 id0 id0 id0 0 0 0) := by
    have zs : Z.heap.size = R + 3 := by rw [hZ]; simp; omega
    refine ⟨⟨⟨b, o, c, by rw [hZ, ← hR, H1.out]; simp [go_sem], by rw [H1.out]; exact HC.out.1, by have := HC.out.2.1; omega, fun j u hj => ?_⟩, by rw [hZ, ← hR]; simp [go_sem], by omega⟩, by rw [hZ, ← hR]; simp [go_sem], by rw [hZ, ← hR]; simp [go_sem], by omega, by rw [hZ, ← hR]; simp [go_sem], by rw [hZ, ← hR]; simp [go_sem], hR, by rw [hZ]; exact (by repeat (first | with_reducible exact Grew.refl _ | with_reducible apply Grew.alloc | with_reducible apply Grew.grow | with_reducible apply Grew.drew | with_reducible apply Grew.drewN))⟩
    exact (show Grew w Z by rw [hZ]; exact (by repeat (first | with_reducible exact Grew.refl _ | with_reducible apply Grew.alloc | with_reducible apply Grew.grow | with_reducible apply Grew.drew | with_reducible apply Grew.drewN))).cell (HC.out.2.2 j u hj)
  rw [hR]
  clear hZ HC
  have lE := H1.out
  refine (number_at l 0 4 (R + 1) Z st.rd HB.out (by omega) (by omega) (by omega)).mono ?_
  rintro e W1 ⟨rfl, hr, hg⟩
  have st1 := st.call hr hg
  have n0 : numL (cutL l 0 4) < 4294967296 := numL_lt 4 _ (cutL_len (by omega)) (cutL_lt HB.out 0 4)
  obtain ⟨N0, hN0⟩ : ∃ n, numL (cutL l 0 4) = n := ⟨_, rfl⟩
  rw [hN0] at n0 ⊢
  have r0 := st1.hd
  have f0 := st1.free
  have fz := st1.fz (hda_size _ _ _ _ _ _ _ _ z z z z) 0 (by omega)
  have cz := (st1.cell 0).trans (hda_0 _ _ _ _ _ _ _ _ z z z z)
  have S1 := Lib.hid st1
  clear hr hg st st1 lE
  go_wp2_with (go_at_call 33; refine stop_of ?_)
  unfold Stop
  have LE := Lib.hid H1.out
  have lE := LE.out
  refine (id_at l 4 (R + 1) _ (S1.out.put 0 (.int .i64 N0)).rd HB.out (by omega) (by omega)).mono ?_
  rintro e W2 ⟨rfl, hr, hg⟩
  have st := (S1.out.put 0 (.int .i64 N0)).call hr hg
  rw [set_ht] at st
  have S2 := Lib.hid (show RdS w W2 R (l.drop 36) _ from st)
  obtain ⟨A, gA⟩ : ∃ n, Idb.of (cutL l 4 32) = n := ⟨_, rfl⟩
  rw [gA]
  have GA := Lib.hid gA
  clear gA
  clear hr hg st r0 f0 fz cz lE S1
  have HN := Lib.hid hN0
  clear hN0
  go_wp2_with (go_at_call 33; refine stop_of ?_)
  unfold Stop
  have lE := LE.out
  refine (id_at l 36 (R + 1) _ S2.out.rd HB.out (by omega) (by omega)).mono ?_
  rintro e W3 ⟨rfl, hr, hg⟩
  have S3 := Lib.hid (show RdS w W3 R (l.drop 68) _ from S2.out.call hr hg)
  obtain ⟨B, gB⟩ : ∃ n, Idb.of (cutL l 36 32) = n := ⟨_, rfl⟩
  rw [gB]
  have GB := Lib.hid gB
  clear gB
  clear hr hg lE S2
  go_wp2_with (go_at_call 33; refine stop_of ?_)
  unfold Stop
  have lE := LE.out
  refine (id_at l 68 (R + 1) _ S3.out.rd HB.out (by omega) (by omega)).mono ?_
  rintro e W4 ⟨rfl, hr, hg⟩
  have S4 := Lib.hid (show RdS w W4 R (l.drop 100) _ from S3.out.call hr hg)
  obtain ⟨C, gC⟩ : ∃ n, Idb.of (cutL l 68 32) = n := ⟨_, rfl⟩
  rw [gC]
  have GC := Lib.hid gC
  clear gC
  clear hr hg lE S3
  go_wp2_with (go_at_call 33; refine stop_of ?_)
  unfold Stop
  have lE := LE.out
  refine (id_at l 100 (R + 1) _ S4.out.rd HB.out (by omega) (by omega)).mono ?_
  rintro e W5 ⟨rfl, hr, hg⟩
  have S5 := Lib.hid (show RdS w W5 R (l.drop 132) _ from S4.out.call hr hg)
  obtain ⟨D, gD⟩ : ∃ n, Idb.of (cutL l 100 32) = n := ⟨_, rfl⟩
  rw [gD]
  have GD := Lib.hid gD
  clear gD
  clear hr hg lE S4
  have la := A.len
  have lb := B.len
  have lc := C.len
  have ld := D.len
  have r5 := S5.out.hd
  have f5 := S5.out.free
  go_wp2_with (go_at_call 33; refine stop_of ?_)
  unfold Stop
  refine Calls_abs ?_
  intro Y hY
  have st : RdS w Y R (l.drop 132) (hda N0 A.l B.l C.l D.l 0 0 0) := by rw [hY]; exact S5.out.set _
  clear hY r5 f5 S5
  have lE := LE.out
  refine (id_at l 132 (R + 1) _ st.rd HB.out (by omega) (by omega)).mono ?_
  rintro e W6 ⟨rfl, hr, hg⟩
  have S6 := Lib.hid (show RdS w W6 R (l.drop 164) _ from st.call hr hg)
  obtain ⟨E, gE⟩ : ∃ n, Idb.of (cutL l 132 32) = n := ⟨_, rfl⟩
  rw [gE]
  have GE := Lib.hid gE
  clear gE
  clear hr hg lE st
  go_wp2_with (go_at_call 34; refine stop_of ?_)
  unfold Stop
  refine (of32_i E _).mono ?_
  rintro e W7 ⟨rfl, hg⟩
  have st := S6.out.grew hg
  have r7 := st.hd
  have f7 := st.free
  have S7 := Lib.hid st
  clear hg st S6
  go_wp2_with (go_at_call 32; refine stop_of ?_)
  unfold Stop
  refine Calls_abs ?_
  intro Y hY
  have st : RdS w Y R (l.drop 164) (hda N0 A.l B.l C.l D.l E.w.n 0 0) := by
    have t := S7.out.set (putAt (hda N0 A.l B.l C.l D.l 0 0 0) 129 (wv E.w.n).toList)
    have t2 : RdS w (W7.setRow (R + 1 + 1) (putAt (hda N0 A.l B.l C.l D.l 0 0 0) 129 (wv E.w.n).toList)) R (l.drop 164) (hda N0 A.l B.l C.l D.l E.w.n 0 0) := ⟨t.rd, t.hd.trans (hw_w _ _ _ _ _ _ _ _ la lb lc ld _), t.free, t.lt, t.r, t.rfree, t.at_, t.gr⟩
    rw [hY]
    exact t2
  clear hY r7 f7 S7
  have lE := LE.out
  refine (number_at l 164 4 (R + 1) Y st.rd HB.out (by omega) (by omega) (by omega)).mono ?_
  rintro e W8 ⟨rfl, hr, hg⟩
  have st8 : RdS w W8 R (l.drop 168) _ := st.call hr hg
  have n6 : numL (cutL l 164 4) < 4294967296 := numL_lt 4 _ (cutL_len (by omega)) (cutL_lt HB.out 164 4)
  obtain ⟨N6, h6⟩ : ∃ n, numL (cutL l 164 4) = n := ⟨_, rfl⟩
  rw [h6] at n6 ⊢
  have H6 := Lib.hid h6
  have r8 := st8.hd
  have f8 := st8.free
  have fz := st8.fz (hda_size _ _ _ _ _ _ _ _ la lb lc ld) 133 (by omega)
  have cz := (st8.cell 133).trans (hda_133 _ _ _ _ _ _ _ _ la lb lc ld)
  have S8 := Lib.hid st8
  clear hr hg st st8 lE h6
  go_wp2_with (go_at_call 32; refine stop_of ?_)
  unfold Stop
  have lE := LE.out
  have st := S8.out.put 133 (.int .u32 (N6 : Int))
  rw [set_bi _ _ _ _ _ _ _ _ la lb lc ld] at st
  refine (number_at l 168 8 (R + 1) _ st.rd HB.out (by omega) (by omega) (by omega)).mono ?_
  rintro e W9 ⟨rfl, hr, hg⟩
  have st9 : RdS w W9 R (l.drop 176) _ := st.call hr hg
  have n7 : numL (cutL l 168 8) < 18446744073709551616 := numL_lt 8 _ (cutL_len (by omega)) (cutL_lt HB.out 168 8)
  obtain ⟨N7, h7⟩ : ∃ n, numL (cutL l 168 8) = n := ⟨_, rfl⟩
  rw [h7] at n7 ⊢
  have H7 := Lib.hid h7
  have r9 := st9.hd
  have f9 := st9.free
  have fz9 := st9.fz (hda_size _ _ _ _ _ _ _ _ la lb lc ld) 134 (by omega)
  have cz9 := (st9.cell 134).trans (hda_134 _ _ _ _ _ _ _ _ la lb lc ld)
  have st10 := st9.put 134 (.int .u64 (N7 : Int))
  rw [set_no _ _ _ _ _ _ _ _ la lb lc ld] at st10
  have cx := (st10.cell 0).trans (hda_0 _ _ _ _ _ _ _ _ la lb lc ld)
  have rx := st10.hd
  have rr := st10.r
  have fr := st10.rfree
  have S10 := Lib.hid st10
  clear hr hg st st9 st10 lE h7 r8 f8 fz cz S8 r9 f9
  have LAST := Lib.hid (And.intro la (And.intro lb (And.intro lc ld)))
  by_cases hbig : (1048576 : Int) < (N0 : Int)
  · have e : hread l = none := hread_none (fun h => by have := h.2; rw [HN.out] at this; omega)
    have e2 : hrd l = Hd.zero := by unfold hrd; rw [e]; rfl
    have E2 := Lib.hid (And.intro e e2)
    clear e e2
    go_wp2
    rw [E2.out.1, E2.out.2]
    refine bodyPost_ret (v := .tuple #[.agg (hda 0 id0 id0 id0 id0 0 0 0), .bool false]) (head_slot_result Try.results11 _ rfl rfl (rowAt_setRow_free _ _ _ fr) (hda_size _ _ _ _ _ _ _ _ z z z z)) rfl ⟨rfl, ?_⟩
    exact S10.out.gr.grown (grownBy_setRow _ _ _) (fun k hk => by cases hk; exact Nat.le_of_eq hR)
  · have e : hread l = some ⟨(N0 : Int), A, B, C, D, E.w, N6, N7, by omega, by omega, n6, n7⟩ := by
      unfold hread
      rw [dif_pos ⟨H1.out, by rw [HN.out]; omega⟩]
      congr 1
      refine Hd.ext' ?_ GA.out GB.out GC.out GD.out ?_ ?_ ?_
      · show ((numL (cutL l 0 4) : Nat) : Int) = _
        rw [HN.out]
      · show (Idb.of (cutL l 132 32)).w = E.w
        rw [GE.out]
      · show numL (cutL l 164 4) % 4294967296 = N6
        rw [H6.out, Nat.mod_eq_of_lt n6]
      · show numL (cutL l 168 8) % 18446744073709551616 = N7
        rw [H7.out, Nat.mod_eq_of_lt n7]
    have e2 : hrd l = ⟨(N0 : Int), A, B, C, D, E.w, N6, N7, by omega, by omega, n6, n7⟩ := by unfold hrd; rw [e]; rfl
    have E2 := Lib.hid (And.intro e e2)
    clear e e2
    go_wp2
    rw [E2.out.1, E2.out.2]
    refine bodyPost_ret (v := .tuple #[.agg (hda N0 A.l B.l C.l D.l E.w.n N6 N7), .bool true]) (head_slot_result Try.results11 _ rfl rfl (rowAt_setRow_free _ _ _ fr) (hda_size _ _ _ _ _ _ _ _ la lb lc ld)) rfl ⟨rfl, ?_⟩
    exact S10.out.gr.grown (grownBy_setRow _ _ _) (fun k hk => by cases hk; exact Nat.le_of_eq hR)
theorem hread_w (l : List Nat) (v : Value) (w : World) (hv : ShowsC w v l) (hb : ∀ x ∈ l, x < 256) (hl : l.length ≤ 1000000) :
    Calls Try.prog 11 #[v] w fun e w' => e = .returned (.tuple #[(hrd l).v, .bool (hread l).isSome]) ∧ Grew w w' := by
  obtain ⟨p, c, rfl, hc, hs⟩ := hv
  by_cases h176 : l.length = 176
  · rcases hs with ⟨b, o, c', he, hbs, hcell⟩ | ⟨p', c', he, h0⟩
    · rw [bys_len] at he
      simp only [Value.slice.injEq, true_and] at he
      obtain ⟨rfl, rfl⟩ := he
      rw [h176] at hc ⊢
      exact hread_long l b o c w h176 hb hc hbs hcell
    · exfalso
      have := congrArg List.length h0
      rw [bys_len, h176] at this
      simp at this
  · have e : hread l = none := hread_none (fun h => h176 h.1)
    have e2 : hrd l = Hd.zero := by unfold hrd; rw [e]; rfl
    rw [e, e2]
    exact hread_short l p c w h176 hl
end Go.Proofs.Ytommbfgagalckaa
/- The document's Get, and its id: where there are so many. -/
namespace Go.Proofs.Ytommbfgagalckaa
open Go.RowKit
set_option maxRecDepth 100000
set_option linter.unusedVariables false
set_option linter.unusedSimpArgs false
set_option maxHeartbeats 3200000 in
theorem rget_in (l : List Nat) (b o c : Nat) (at_ size : Nat) (w : World) (hb : ∀ x ∈ l, x < 256) (hcell : ∀ j u, (bys l)[j]? = some u → w.cell? ⟨b, o + j, none⟩ = some u) (hl : l.length ≤ 1000000) (hs : size ≤ 8) (ha : at_ + size ≤ l.length) :
    Calls Try.prog 48 #[.slice (some ⟨b, o, none⟩) l.length c, .int .i64 (at_ : Int), .int .i64 (size : Int)] w fun e w' => e = .returned (.tuple #[.int .u64 (numL (cutL l at_ size) : Nat), .bool true]) ∧ Grew w w' := by
  obtain ⟨N, hN⟩ : ∃ N, l.length = N := ⟨_, rfl⟩
  obtain ⟨m, hm⟩ : ∃ m, cutL l at_ size = m := ⟨_, rfl⟩
  have hml : m.length = size := by rw [← hm]; exact cutL_len ha
  have hmb : ∀ x ∈ m, x < 256 := by rw [← hm]; exact cutL_lt hb _ _
  have hget : ∀ k, k < size → m[k]? = l[at_ + k]? := fun k hk => by rw [← hm]; unfold cutL; rw [List.getElem?_take, if_pos hk, List.getElem?_drop]
  rw [hm]
  have hcl : ∀ k, k < size → w.cell? ⟨b, o + (at_ + k), none⟩ = some (.int .u8 ((m.getD k 0 : Nat) : Int)) := fun k hk => by
    refine hcell (at_ + k) _ ?_
    have h1 := hget k hk
    simp only [bys, List.getElem?_map, ← h1, List.getD]
    rw [List.getElem?_eq_getElem (by omega)]
    rfl
  rw [hN] at hl ha ⊢
  have g1 : ¬ (8 : Int) < (size : Int) := by omega
  have g2 : ¬ (N : Int) < (at_ : Int) := by omega
  have g3 : ¬ (N : Int) - (at_ : Int) < (size : Int) := by omega
  have g6 : (at_ : Int) + (size : Int) ≤ 1000000 := by omega
  have HC := Lib.hid hcl
  have HMB := Lib.hid hmb
  clear hcl hcell hget hmb hb hN hm
  go_enter Try.func48, Try.ntmps48
  go_wp2
  go_loopw [8, 9] (fun v i wr => ∃ k : Nat, k ≤ size ∧ i = .int .i64 k ∧ v = .int .u64 ((numL (m.take k) : Nat) : Int) ∧ wr = w) (fun _ i _ => size - (intOf i).toNat)
  case atStart => exact ⟨0, by omega, rfl, rfl, rfl⟩
  case round =>
    obtain ⟨k, hk, rfl, rfl, rfl⟩ := hrel
    by_cases hks : k < size
    · have hlt : (k : Int) < (size : Int) := by omega
      have hx : m.getD k 0 < 256 := by
        rw [List.getD, List.getElem?_eq_getElem (by omega)]
        exact HMB.out _ (List.getElem_mem _)
      have hn := numL_lt k (m.take k) (by rw [List.length_take]; omega) fun x hx => HMB.out x (List.mem_of_mem_take hx)
      have hst : numL (m.take (k + 1)) = numL (m.take k) * 256 + m.getD k 0 := by
        rw [List.take_add_one, List.getElem?_eq_getElem (by omega), List.getD, List.getElem?_eq_getElem (by omega)]
        exact numL_snoc _ _
      have hc1 := HC.out k hks
      have h56 : 256 ^ k ≤ 72057594037927936 := by
        have : 256 ^ k ≤ 256 ^ 7 := Nat.pow_le_pow_right (by omega) (by omega)
        omega
      obtain ⟨x, hxx⟩ : ∃ x, m.getD k 0 = x := ⟨_, rfl⟩
      obtain ⟨n, hnn⟩ : ∃ x, numL (m.take k) = x := ⟨_, rfl⟩
      rw [hxx] at hx hst hc1
      rw [hnn] at hst hn ⊢
      have hnb : n < 72057594037927936 := by omega
      have HST := Lib.hid hst
      have hat : at_ + k < N := by omega
      clear hst hn h56 hxx hnn
      go_wp2
      exact ⟨⟨k + 1, by omega, by go_num, by rw [HST.out]; congr 1; omega, trivial⟩, by simp only [intOf]; omega⟩
    · obtain rfl : k = size := by omega
      have hge : ¬ ((k : Int) < (k : Int)) := by omega
      rw [List.take_of_length_le (by omega)]
      clear hk hks
      go_wp2
      go_ret2
      exact ⟨rfl, Grew.refl _⟩
set_option maxHeartbeats 3200000 in
theorem rid_w (l : List Nat) (b o c : Nat) (at_ : Nat) (w : World) (hb : ∀ x ∈ l, x < 256) (hcell : ∀ j u, (bys l)[j]? = some u → w.cell? ⟨b, o + j, none⟩ = some u) (hl : l.length ≤ 1000000) (ha : at_ + 32 ≤ l.length) :
    Calls Try.prog 49 #[.slice (some ⟨b, o, none⟩) l.length c, .int .i64 (at_ : Int)] w fun e w' => e = .returned (.agg (iv (Idb.of (cutL l at_ 32)).l)) ∧ Grew w w' := by
  have hml : (cutL l at_ 32).length = 32 := cutL_len ha
  have eI : (Idb.of (cutL l at_ 32)).l = cutL l at_ 32 := Idb.of_l hml (cutL_lt hb _ _)
  rw [eI]
  obtain ⟨N, hN⟩ : ∃ N, l.length = N := ⟨_, rfl⟩
  have hget : ∀ k, k < 32 → (cutL l at_ 32)[k]? = l[at_ + k]? := fun k hk => by unfold cutL; rw [List.getElem?_take, if_pos hk, List.getElem?_drop]
  obtain ⟨m, hm⟩ : ∃ m, cutL l at_ 32 = m := ⟨_, rfl⟩
  rw [hm] at hml hget ⊢
  have hcl : ∀ k, k < 32 → w.cell? ⟨b, o + (at_ + k), none⟩ = some (.int .u8 ((m.getD k 0 : Nat) : Int)) := fun k hk => by
    refine hcell (at_ + k) _ ?_
    have h1 := hget k hk
    simp only [bys, List.getElem?_map, ← h1, List.getD]
    rw [List.getElem?_eq_getElem (by omega)]
    rfl
  have eF : filled (fun j => m.getD j 0) 32 32 = m := by
    rw [filled_all]
    apply List.ext_getElem
    · simp [hml]
    · intro i h1 h2
      simp [List.getD, h2]
  obtain ⟨f, hf⟩ : ∃ f : Nat → Nat, (fun j => m.getD j 0) = f := ⟨_, rfl⟩
  have hcf : ∀ k, k < 32 → w.cell? ⟨b, o + (at_ + k), none⟩ = some (.int .u8 ((f k : Nat) : Int)) := fun k hk => by rw [← hf]; exact hcl k hk
  rw [hf] at eF
  have EF := Lib.hid eF
  rw [hN] at hl ha ⊢
  have g6 : (at_ : Int) + 32 ≤ 1000000 := by omega
  have HC := Lib.hid hcf
  have HM := Lib.hid hml
  clear hcf hcl hcell hget hb hN hm eI hml eF hf
  go_enter Try.func49, Try.ntmps49
  go_wp2
  go_loopw [6] (fun i wr => ∃ k : Nat, k ≤ 32 ∧ i = .int .i64 k ∧ wr = ((w.alloc (.cells (iv id0) 23)).alloc (.cells (iv (filled f 32 k)) 23))) (fun i _ => 32 - (intOf i).toNat)
  case atStart => exact ⟨0, by omega, rfl, by rw [filled_zero]; rfl⟩
  case round =>
    obtain ⟨k, hk, rfl, rfl⟩ := hrel
    by_cases hks : k < 32
    · have hc1 := HC.out k hks
      have hc2 : ((w.alloc (.cells (iv id0) 23)).alloc (.cells (iv (filled f 32 k)) 23)).cell? ⟨b, o + (at_ + k), none⟩ = some (.int .u8 ((f k : Nat) : Int)) := (show Grew w _ from (by repeat (first | with_reducible exact Grew.refl _ | with_reducible apply Grew.alloc | with_reducible apply Grew.grow | with_reducible apply Grew.drew | with_reducible apply Grew.drewN))).cell hc1
      have h3 : (iv (filled f 32 k)).setIfInBounds k (.int .u8 (f k : Nat)) = iv (filled f 32 (k + 1)) := by rw [iv_set, filled_step]
      have h4 : (iv (filled f 32 k))[k]? = some (.int .u8 (byteAt (filled f 32 k) k : Nat)) := iv_at _ _ (by rw [filled_length]; exact hks)
      have hat : at_ + k < N := by omega
      clear hc1
      refine code_abs ?_
      intro Y hY
      rw [← hY] at hc2
      have r1 : Y.rowAt (w.heap.size + 1) = iv (filled f 32 k) := by rw [hY]; simp [go_sem]
      have f1 : Y.rowFree (w.heap.size + 1) = true := by rw [hY]; simp [go_sem]
      have HY := Lib.hid hY
      have H3 := Lib.hid h3
      obtain ⟨g, hg⟩ : ∃ g, w.heap.size + 1 = g := ⟨_, rfl⟩
      rw [hg] at r1 f1 ⊢
      have c4 : Y.cell? ⟨g, k, none⟩ = some (.int .u8 (byteAt (filled f 32 k) k : Nat)) := by rw [cell_rowAt, r1]; exact h4
      have fz : Y.frozen? ⟨g, k, none⟩ = false := by
        have := (there_row f1 (o := k) (n := 1) (by rw [r1, iv_size, filled_length]; omega) 0 (by omega)).2
        rwa [Nat.add_zero] at this
      obtain ⟨x, hx⟩ : ∃ x, at_ + k = x := ⟨_, rfl⟩
      have hxI : (at_ : Int) + (k : Int) = (x : Int) := by omega
      have hxN : x < N := by omega
      have hxb : (x : Int) ≤ 1000000 := by omega
      rw [hx] at hc2
      have HG := Lib.hid hg
      have F1 := Lib.hid (And.intro r1 f1)
      clear hY h3 h4 r1 f1 hg hx hat g6 ha hk
      go_wp2
      have hs : Y.setCell ⟨g, k, none⟩ (.int .u8 (f k : Nat)) = Y.setRow g (iv (filled f 32 (k + 1))) := by
        have h2 := setCell_setRow_free Y g (Y.rowAt g) F1.out.2 k (.int .u8 (f k : Nat))
        rw [setRow_same' _ _ F1.out.2, F1.out.1, H3.out] at h2
        exact h2
      refine ⟨⟨k + 1, by omega, by go_num, ?_⟩, by simp only [intOf]; omega⟩
      rw [hs, HY.out, ← HG.out]
      simp [go_sem]
    · obtain rfl : k = 32 := by omega
      rw [EF.out]
      have hml := HM.out
      go_wp2
      exact bodyPost_ret (v := .agg (iv m)) (id_result Try.results49 _ rfl (by simp [go_sem]) hml) rfl ⟨rfl, (by repeat (first | with_reducible exact Grew.refl _ | with_reducible apply Grew.alloc | with_reducible apply Grew.grow | with_reducible apply Grew.drew | with_reducible apply Grew.drewN))⟩
end Go.Proofs.Ytommbfgagalckaa
/- The document's Read of a head. -/
namespace Go.Proofs.Ytommbfgagalckaa
open Go.RowKit
set_option maxRecDepth 100000
set_option linter.unusedVariables false
set_option linter.unusedSimpArgs false
theorem rhread_short (l : List Nat) (p : Option Addr) (c : Nat) (w : World) (h176 : l.length ≠ 176) (hl : l.length ≤ 1000000) :
    Calls Try.prog 22 #[.slice p l.length c] w fun e w' => e = .returned (.tuple #[.agg (hda 0 id0 id0 id0 id0 0 0 0), .bool false]) ∧ Grew w w' := by
  have hlI : (l.length : Int) ≤ 1000000 := by omega
  have hne : ¬ (l.length : Int) = 176 := by omega
  obtain ⟨L, hL⟩ : ∃ L, l.length = L := ⟨_, rfl⟩
  rw [hL] at hlI hne ⊢
  clear h176 hl hL
  have z := id0_len
  go_enter Try.func22, Try.ntmps22
  go_wp2
  refine bodyPost_ret (v := .tuple #[.agg (hda 0 id0 id0 id0 id0 0 0 0), .bool false]) (head_slot_result Try.results22 _ rfl rfl (by simp [go_sem]) (hda_size _ _ _ _ _ _ _ _ z z z z)) rfl ⟨rfl, ?_⟩
  exact (by repeat (first | with_reducible exact Grew.refl _ | with_reducible apply Grew.alloc | with_reducible apply Grew.grow | with_reducible apply Grew.drew | with_reducible apply Grew.drewN))
set_option maxHeartbeats 6400000 in
theorem rhread_long (l : List Nat) (b o : Nat) (c : Nat) (w : World) (h176 : l.length = 176) (hb : ∀ x ∈ l, x < 256) (hcell : ∀ j u, (bys l)[j]? = some u → w.cell? ⟨b, o + j, none⟩ = some u) :
    Calls Try.prog 22 #[.slice (some ⟨b, o, none⟩) 176 c] w fun e w' => e = .returned (.tuple #[(hrd l).v, .bool (hread l).isSome]) ∧ Grew w w' := by
  have z := id0_len
  have GETS : ∀ (W : World), Grew w W → ∀ a n : Nat, n ≤ 8 → a + n ≤ 176 → Calls Try.prog 48 #[.slice (some ⟨b, o, none⟩) 176 c, .int .i64 (a : Int), .int .i64 (n : Int)] W fun e w' => e = .returned (.tuple #[.int .u64 (numL (cutL l a n) : Nat), .bool true]) ∧ Grew W w' := fun W g a n h1 h2 => by
    have := rget_in l b o c a n W hb (fun j u hj => g.cell (hcell j u hj)) (by omega) h1 (by omega)
    rwa [h176] at this
  have IDS : ∀ (W : World), Grew w W → ∀ a : Nat, a + 32 ≤ 176 → Calls Try.prog 49 #[.slice (some ⟨b, o, none⟩) 176 c, .int .i64 (a : Int)] W fun e w' => e = .returned (.agg (iv (Idb.of (cutL l a 32)).l)) ∧ Grew W w' := fun W g a h2 => by
    have := rid_w l b o c a W hb (fun j u hj => g.cell (hcell j u hj)) (by omega) (by omega)
    rwa [h176] at this
  have HG := Lib.hid GETS
  have HI := Lib.hid IDS
  have H1 := Lib.hid h176
  have n0 : numL (cutL l 0 4) < 4294967296 := numL_lt 4 _ (cutL_len (by omega)) (cutL_lt hb 0 4)
  have n6 : numL (cutL l 164 4) < 4294967296 := numL_lt 4 _ (cutL_len (by omega)) (cutL_lt hb 164 4)
  have n7 : numL (cutL l 168 8) < 18446744073709551616 := numL_lt 8 _ (cutL_len (by omega)) (cutL_lt hb 168 8)
  obtain ⟨N0, h0⟩ : ∃ n, numL (cutL l 0 4) = n := ⟨_, rfl⟩
  obtain ⟨N6, h6⟩ : ∃ n, numL (cutL l 164 4) = n := ⟨_, rfl⟩
  obtain ⟨N7, h7⟩ : ∃ n, numL (cutL l 168 8) = n := ⟨_, rfl⟩
  rw [h0] at n0
  rw [h6] at n6
  rw [h7] at n7
  have HN := Lib.hid (And.intro h0 (And.intro h6 h7))
  clear GETS IDS h176 hb hcell h0 h6 h7
  go_enter Try.func22, Try.ntmps22
  go_wp2_with (go_at_call 48; refine stop_of ?_)
  unfold Stop
  refine (HG.out _ (by repeat (first | with_reducible exact Grew.refl _ | with_reducible apply Grew.alloc | with_reducible apply Grew.grow | with_reducible apply Grew.drew | with_reducible apply Grew.drewN)) 0 4 (by omega) (by omega)).mono ?_
  rintro e W1 ⟨rfl, hg⟩
  rw [HN.out.1]
  have r1 : W1.rowAt w.heap.size = hda 0 id0 id0 id0 id0 0 0 0 := by rw [rowAt_of_heap (hg.heap (by simp))]; simp [go_sem]
  have f1 : W1.rowFree w.heap.size = true := by rw [rowFree_of_heap (hg.heap (by simp))]; simp [go_sem]
  have lt1 : w.heap.size < W1.heap.size := Nat.lt_of_lt_of_le (by simp) hg.size
  have G1 := Lib.hid ((show Grew w _ from (by repeat (first | with_reducible exact Grew.refl _ | with_reducible apply Grew.alloc | with_reducible apply Grew.grow | with_reducible apply Grew.drew | with_reducible apply Grew.drewN))).trans hg)
  clear hg
  by_cases hbig : (1048576 : Int) < (N0 : Int)
  · have e : hread l = none := hread_none (fun h => by have := h.2; rw [HN.out.1] at this; omega)
    have e2 : hrd l = Hd.zero := by unfold hrd; rw [e]; rfl
    have E2 := Lib.hid (And.intro e e2)
    clear e e2
    go_wp2
    rw [E2.out.1, E2.out.2]
    refine bodyPost_ret (v := .tuple #[.agg (hda 0 id0 id0 id0 id0 0 0 0), .bool false]) (head_slot_result Try.results22 _ rfl rfl (rowAt_setRow_free _ _ _ f1) (hda_size _ _ _ _ _ _ _ _ z z z z)) rfl ⟨rfl, ?_⟩
    exact G1.out.grown (grownBy_setRow _ _ _) (fun k hk => by cases hk; exact Nat.le_refl _)
  have e : hread l = some ⟨(N0 : Int), Idb.of (cutL l 4 32), Idb.of (cutL l 36 32), Idb.of (cutL l 68 32), Idb.of (cutL l 100 32), (Idb.of (cutL l 132 32)).w, N6, N7, by omega, by omega, n6, n7⟩ := by
    unfold hread
    rw [dif_pos ⟨H1.out, by rw [HN.out.1]; omega⟩]
    congr 1
    refine Hd.ext' ?_ rfl rfl rfl rfl rfl ?_ ?_
    · show ((numL (cutL l 0 4) : Nat) : Int) = _
      rw [HN.out.1]
    · show numL (cutL l 164 4) % 4294967296 = N6
      rw [HN.out.2.1, Nat.mod_eq_of_lt n6]
    · show numL (cutL l 168 8) % 18446744073709551616 = N7
      rw [HN.out.2.2, Nat.mod_eq_of_lt n7]
  have e2 : hrd l = ⟨(N0 : Int), Idb.of (cutL l 4 32), Idb.of (cutL l 36 32), Idb.of (cutL l 68 32), Idb.of (cutL l 100 32), (Idb.of (cutL l 132 32)).w, N6, N7, by omega, by omega, n6, n7⟩ := by unfold hrd; rw [e]; rfl
  have E2 := Lib.hid (And.intro e e2)
  clear e e2
  go_wp2_with (go_at_call 48; refine stop_of ?_)
  unfold Stop
  refine (HG.out _ G1.out 164 4 (by omega) (by omega)).mono ?_
  rintro e W2 ⟨rfl, hg⟩
  rw [HN.out.2.1]
  have r2 : W2.rowAt w.heap.size = hda 0 id0 id0 id0 id0 0 0 0 := by rw [rowAt_of_heap (hg.heap lt1), r1]
  have f2 : W2.rowFree w.heap.size = true := by rw [rowFree_of_heap (hg.heap lt1), f1]
  have lt2 := Nat.lt_of_lt_of_le lt1 hg.size
  have G2 := Lib.hid (G1.out.trans hg)
  clear hg r1 f1 lt1 G1
  go_wp2_with (go_at_call 48; refine stop_of ?_)
  unfold Stop
  refine (HG.out _ G2.out 168 8 (by omega) (by omega)).mono ?_
  rintro e W3 ⟨rfl, hg⟩
  rw [HN.out.2.2]
  have r3 : W3.rowAt w.heap.size = hda 0 id0 id0 id0 id0 0 0 0 := by rw [rowAt_of_heap (hg.heap lt2), r2]
  have f3 : W3.rowFree w.heap.size = true := by rw [rowFree_of_heap (hg.heap lt2), f2]
  have lt3 := Nat.lt_of_lt_of_le lt2 hg.size
  have G3 := Lib.hid (G2.out.trans hg)
  clear hg r2 f2 lt2 G2
  go_wp2_with (go_at_call 49; refine stop_of ?_)
  unfold Stop
  refine (HI.out _ G3.out 4 (by omega)).mono ?_
  rintro e W4 ⟨rfl, hg⟩
  have r4 : W4.rowAt w.heap.size = hda 0 id0 id0 id0 id0 0 0 0 := by rw [rowAt_of_heap (hg.heap lt3), r3]
  have f4 : W4.rowFree w.heap.size = true := by rw [rowFree_of_heap (hg.heap lt3), f3]
  have lt4 := Nat.lt_of_lt_of_le lt3 hg.size
  have G4 := Lib.hid (G3.out.trans hg)
  obtain ⟨A, gA⟩ : ∃ n, Idb.of (cutL l 4 32) = n := ⟨_, rfl⟩
  rw [gA]
  have GA := Lib.hid gA
  clear hg r3 f3 lt3 G3 gA
  go_wp2_with (go_at_call 49; refine stop_of ?_)
  unfold Stop
  refine (HI.out _ G4.out 36 (by omega)).mono ?_
  rintro e W5 ⟨rfl, hg⟩
  have r5 : W5.rowAt w.heap.size = hda 0 id0 id0 id0 id0 0 0 0 := by rw [rowAt_of_heap (hg.heap lt4), r4]
  have f5 : W5.rowFree w.heap.size = true := by rw [rowFree_of_heap (hg.heap lt4), f4]
  have lt5 := Nat.lt_of_lt_of_le lt4 hg.size
  have G5 := Lib.hid (G4.out.trans hg)
  obtain ⟨B, gB⟩ : ∃ n, Idb.of (cutL l 36 32) = n := ⟨_, rfl⟩
  rw [gB]
  have GB := Lib.hid gB
  clear hg r4 f4 lt4 G4 gB
  go_wp2_with (go_at_call 49; refine stop_of ?_)
  unfold Stop
  refine (HI.out _ G5.out 68 (by omega)).mono ?_
  rintro e W6 ⟨rfl, hg⟩
  have r6 : W6.rowAt w.heap.size = hda 0 id0 id0 id0 id0 0 0 0 := by rw [rowAt_of_heap (hg.heap lt5), r5]
  have f6 : W6.rowFree w.heap.size = true := by rw [rowFree_of_heap (hg.heap lt5), f5]
  have lt6 := Nat.lt_of_lt_of_le lt5 hg.size
  have G6 := Lib.hid (G5.out.trans hg)
  obtain ⟨C, gC⟩ : ∃ n, Idb.of (cutL l 68 32) = n := ⟨_, rfl⟩
  rw [gC]
  have GC := Lib.hid gC
  clear hg r5 f5 lt5 G5 gC
  go_wp2_with (go_at_call 49; refine stop_of ?_)
  unfold Stop
  refine (HI.out _ G6.out 100 (by omega)).mono ?_
  rintro e W7 ⟨rfl, hg⟩
  have r7 : W7.rowAt w.heap.size = hda 0 id0 id0 id0 id0 0 0 0 := by rw [rowAt_of_heap (hg.heap lt6), r6]
  have f7 : W7.rowFree w.heap.size = true := by rw [rowFree_of_heap (hg.heap lt6), f6]
  have lt7 := Nat.lt_of_lt_of_le lt6 hg.size
  have G7 := Lib.hid (G6.out.trans hg)
  obtain ⟨D, gD⟩ : ∃ n, Idb.of (cutL l 100 32) = n := ⟨_, rfl⟩
  rw [gD]
  have GD := Lib.hid gD
  clear hg r6 f6 lt6 G6 gD
  go_wp2_with (go_at_call 49; refine stop_of ?_)
  unfold Stop
  refine (HI.out _ G7.out 132 (by omega)).mono ?_
  rintro e W8 ⟨rfl, hg⟩
  have r8 : W8.rowAt w.heap.size = hda 0 id0 id0 id0 id0 0 0 0 := by rw [rowAt_of_heap (hg.heap lt7), r7]
  have f8 : W8.rowFree w.heap.size = true := by rw [rowFree_of_heap (hg.heap lt7), f7]
  have lt8 := Nat.lt_of_lt_of_le lt7 hg.size
  have G8 := Lib.hid (G7.out.trans hg)
  obtain ⟨E, gE⟩ : ∃ n, Idb.of (cutL l 132 32) = n := ⟨_, rfl⟩
  rw [gE]
  have GE := Lib.hid gE
  clear hg r7 f7 lt7 G7 gE
  go_wp2_with (go_at_call 50; refine stop_of ?_)
  unfold Stop
  refine (rof32_i E _).mono ?_
  rintro e W9 ⟨rfl, hg⟩
  have r9 : W9.rowAt w.heap.size = hda 0 id0 id0 id0 id0 0 0 0 := by rw [rowAt_of_heap (hg.heap lt8), r8]
  have f9 : W9.rowFree w.heap.size = true := by rw [rowFree_of_heap (hg.heap lt8), f8]
  have GZ := Lib.hid (G8.out.trans hg)
  have la := A.len
  have lb := B.len
  have lc := C.len
  have ld := D.len
  clear hg r8 f8 lt8 G8
  go_wp2
  rw [E2.out.1, E2.out.2, GA.out, GB.out, GC.out, GD.out, GE.out]
  refine bodyPost_ret (v := .tuple #[.agg (hda N0 A.l B.l C.l D.l E.w.n N6 N7), .bool true]) (head_slot_result Try.results22 _ rfl rfl (rowAt_setRow_free _ _ _ f9) (hda_size _ _ _ _ _ _ _ _ la lb lc ld)) rfl ⟨rfl, ?_⟩
  exact GZ.out.grown (grownBy_setRow _ _ _) (fun k hk => by cases hk; exact Nat.le_refl _)
theorem rhread_w (l : List Nat) (v : Value) (w : World) (hv : ShowsC w v l) (hb : ∀ x ∈ l, x < 256) (hl : l.length ≤ 1000000) :
    Calls Try.prog 22 #[v] w fun e w' => e = .returned (.tuple #[(hrd l).v, .bool (hread l).isSome]) ∧ Grew w w' := by
  obtain ⟨p, c, rfl, hc, hs⟩ := hv
  by_cases h176 : l.length = 176
  · rcases hs with ⟨b, o, c', he, hbs, hcell⟩ | ⟨p', c', he, h0⟩
    · rw [bys_len] at he
      simp only [Value.slice.injEq, true_and] at he
      obtain ⟨rfl, rfl⟩ := he
      rw [h176] at hc ⊢
      exact rhread_long l b o c w h176 hb hcell
    · exfalso
      have := congrArg List.length h0
      rw [bys_len, h176] at this
      simp at this
  · have e : hread l = none := hread_none (fun h => h176 h.1)
    have e2 : hrd l = Hd.zero := by unfold hrd; rw [e]; rfl
    rw [e, e2]
    exact rhread_short l p c w h176 hl
end Go.Proofs.Ytommbfgagalckaa
/- head's Id, Level, Work, May; and the document's. -/
namespace Go.Proofs.Ytommbfgagalckaa
open Go.RowKit
set_option maxRecDepth 100000
set_option linter.unusedVariables false
set_option linter.unusedSimpArgs false
theorem rows_2 (X : World) (x y : Value) (a b : List Nat) (h1 : Shows X x (bys a)) (h2 : Shows X y (bys b)) : RowsAt (X.alloc (.cells #[x, y] 30)) (.slice (some ⟨X.heap.size, 0, none⟩) 2 2) [a, b] := by
  have o := shows_alloc X [x, y] 30 2
  have g : Grew X (X.alloc (.cells #[x, y] 30)) := (by repeat (first | with_reducible exact Grew.refl _ | with_reducible apply Grew.alloc | with_reducible apply Grew.grow | with_reducible apply Grew.drew | with_reducible apply Grew.drewN))
  refine ⟨[x, y], rfl, o, fun k hk => ?_⟩
  have hk : k < 2 := hk
  match k, hk with
  | 0, _ => exact h1.grew g
  | 1, _ => exact h2.grew g
theorem id_lt (h : Hd) : ∀ l ∈ [[5], hputL h], ∀ x ∈ l, x < 256 := by
  intro l hl x hx
  simp only [List.mem_cons, List.not_mem_nil, or_false] at hl
  rcases hl with rfl | rfl
  · simp at hx; omega
  · exact hputL_lt h x hx
theorem id_flat (h : Hd) : ([[5], hputL h] : List (List Nat)).flatten = 5 :: hputL h := by simp
theorem id_catk (h : Hd) (k : Nat) : (catk [[5], hputL h] k).length ≤ 1000000 := by
  have h1 := hputL_len h
  match k with
  | 0 => simp [catk]
  | 1 => simp [catk]
  | k + 2 => simp [catk, h1]
theorem hid_ok {h : Hd} (ho : hok h = true) : (hid h).l = sum (5 :: hputL h) := by unfold hid; rw [if_pos ho]; rfl
theorem hid_no {h : Hd} (ho : hok h = false) : hid h = Idb.zero := by unfold hid; rw [if_neg (by rw [ho]; decide)]
theorem id_of (h : Hd) (ho : hok h = true) (v : Value) (w : World) (hv : RowsAt w v [[5], hputL h]) :
    Calls Try.prog 35 #[v] w fun e w' => e = .returned (.agg (iv (hid h).l)) ∧ Grew w w' := by
  have := of_w [[5], hputL h] v w (id_lt h) (by simp) (by rw [id_flat, List.length_cons, hputL_len]; omega) hv
  rwa [id_flat, ← hid_ok ho] at this
theorem id_rof (h : Hd) (ho : hok h = true) (v : Value) (w : World) (hv : RowsAt w v [[5], hputL h]) :
    Calls Try.prog 52 #[v] w fun e w' => e = .returned (.agg (iv (hid h).l)) ∧ Grew w w' := by
  have := rof_w [[5], hputL h] v w (id_lt h) (by simp) (id_catk h) hv
  rwa [id_flat, ← hid_ok ho] at this
set_option maxHeartbeats 3200000 in
theorem hid_w (h : Hd) (w : World) :
    Calls Try.prog 12 #[.agg (hda h.ht h.a.l h.b.l h.c.l h.d.l h.w.n h.bi h.no)] w fun e w' => e = .returned (.agg (iv (hid h).l)) ∧ Grew w w' := by
  have ha := h.a.len
  have hb := h.b.len
  have hc := h.c.len
  have hd := h.d.len
  have hl := (hid h).len
  have z := id0_len
  go_enter Try.func12, Try.ntmps12
  go_wp2_with (go_at_call 10; refine stop_of ?_)
  unfold Stop
  refine (hput_w h _).mono ?_
  rintro e W1 ⟨v, rfl, hs, hg⟩
  have r1 : W1.rowAt (w.heap.size + 1) = iv id0 := by rw [rowAt_of_heap (hg.heap (by simp))]; simp [go_sem]
  have f1 : W1.rowFree (w.heap.size + 1) = true := by rw [rowFree_of_heap (hg.heap (by simp))]; simp [go_sem]
  have lt1 : w.heap.size + 1 < W1.heap.size := Nat.lt_of_lt_of_le (by simp) hg.size
  have G1 := Lib.hid ((show Grew w _ from (by repeat (first | with_reducible exact Grew.refl _ | with_reducible apply Grew.alloc | with_reducible apply Grew.grow | with_reducible apply Grew.drew | with_reducible apply Grew.drewN))).trans hg)
  have HS := Lib.hid hs
  clear hg hs
  cases ho : hok h
  · have e0 : (hid h).l = id0 := by rw [hid_no ho]; rfl
    go_wp2
    rw [e0]
    refine bodyPost_ret (v := .agg (iv id0)) (id_result Try.results12 _ rfl (rowAt_setRow_free _ _ _ f1) z) rfl ⟨rfl, ?_⟩
    exact G1.out.grown (grownBy_setRow _ _ _) (fun k hk => by cases hk; omega)
  · have HO := Lib.hid ho
    obtain ⟨p, c, rfl, hc', hs⟩ := HS.out
    rw [hpL_ok ho] at hs ⊢
    have HS2 := Lib.hid hs
    clear hs ho
    go_wp2_with (go_at_call 35; refine stop_of ?_)
    unfold Stop
    have sa : Shows (W1.alloc (.cells #[.int .u8 5] 5)) (.slice (some ⟨W1.heap.size, 0, none⟩) 1 1) (bys [5]) := shows_one W1 (.int .u8 5) 5 1
    refine (id_of h HO.out _ _ (by have := rows_2 (W1.alloc (.cells #[.int .u8 5] 5)) _ _ _ _ sa (HS2.out.grew (by repeat (first | with_reducible exact Grew.refl _ | with_reducible apply Grew.alloc | with_reducible apply Grew.grow | with_reducible apply Grew.drew | with_reducible apply Grew.drewN))); simpa using this)).mono ?_
    rintro e W2 ⟨rfl, hg⟩
    have g2 := (show Grew W1 _ from (by repeat (first | with_reducible exact Grew.refl _ | with_reducible apply Grew.alloc | with_reducible apply Grew.grow | with_reducible apply Grew.drew | with_reducible apply Grew.drewN))).trans hg
    have r2 : W2.rowAt (w.heap.size + 1) = iv id0 := by rw [rowAt_of_heap (g2.heap lt1), r1]
    have f2 : W2.rowFree (w.heap.size + 1) = true := by rw [rowFree_of_heap (g2.heap lt1), f1]
    have G2 := Lib.hid (G1.out.trans g2)
    clear g2 hg sa r1 f1 lt1
    go_wp2
    refine bodyPost_ret (v := .agg (iv (hid h).l)) (id_result Try.results12 _ rfl (rowAt_setRow_free _ _ _ f2) hl) rfl ⟨rfl, ?_⟩
    exact G2.out.grown (grownBy_setRow _ _ _) (fun k hk => by cases hk; omega)
set_option maxHeartbeats 3200000 in
theorem rhid_w (h : Hd) (w : World) :
    Calls Try.prog 26 #[.agg (hda h.ht h.a.l h.b.l h.c.l h.d.l h.w.n h.bi h.no)] w fun e w' => e = .returned (.agg (iv (hid h).l)) ∧ Grew w w' := by
  have ha := h.a.len
  have hb := h.b.len
  have hc := h.c.len
  have hd := h.d.len
  have hl := (hid h).len
  have z := id0_len
  go_enter Try.func26, Try.ntmps26
  go_wp2_with (go_at_call 21; refine stop_of ?_)
  unfold Stop
  refine (rhput_w h _).mono ?_
  rintro e W1 ⟨v, rfl, hs, hg⟩
  have r1 : W1.rowAt (w.heap.size + 1) = iv id0 := by rw [rowAt_of_heap (hg.heap (by simp))]; simp [go_sem]
  have f1 : W1.rowFree (w.heap.size + 1) = true := by rw [rowFree_of_heap (hg.heap (by simp))]; simp [go_sem]
  have lt1 : w.heap.size + 1 < W1.heap.size := Nat.lt_of_lt_of_le (by simp) hg.size
  have G1 := Lib.hid ((show Grew w _ from (by repeat (first | with_reducible exact Grew.refl _ | with_reducible apply Grew.alloc | with_reducible apply Grew.grow | with_reducible apply Grew.drew | with_reducible apply Grew.drewN))).trans hg)
  have HS := Lib.hid hs
  clear hg hs
  cases ho : hok h
  · have e0 : (hid h).l = id0 := by rw [hid_no ho]; rfl
    go_wp2
    rw [e0]
    refine bodyPost_ret (v := .agg (iv id0)) (id_result Try.results26 _ rfl (rowAt_setRow_free _ _ _ f1) z) rfl ⟨rfl, ?_⟩
    exact G1.out.grown (grownBy_setRow _ _ _) (fun k hk => by cases hk; omega)
  · have HO := Lib.hid ho
    obtain ⟨p, c, rfl, hc', hs⟩ := HS.out
    rw [hpL_ok ho] at hs ⊢
    have HS2 := Lib.hid hs
    clear hs ho
    go_wp2_with (go_at_call 52; refine stop_of ?_)
    unfold Stop
    have sa : Shows (W1.alloc (.cells #[.int .u8 5] 5)) (.slice (some ⟨W1.heap.size, 0, none⟩) 1 1) (bys [5]) := shows_one W1 (.int .u8 5) 5 1
    refine (id_rof h HO.out _ _ (by have := rows_2 (W1.alloc (.cells #[.int .u8 5] 5)) _ _ _ _ sa (HS2.out.grew (by repeat (first | with_reducible exact Grew.refl _ | with_reducible apply Grew.alloc | with_reducible apply Grew.grow | with_reducible apply Grew.drew | with_reducible apply Grew.drewN))); simpa using this)).mono ?_
    rintro e W2 ⟨rfl, hg⟩
    have g2 := (show Grew W1 _ from (by repeat (first | with_reducible exact Grew.refl _ | with_reducible apply Grew.alloc | with_reducible apply Grew.grow | with_reducible apply Grew.drew | with_reducible apply Grew.drewN))).trans hg
    have r2 : W2.rowAt (w.heap.size + 1) = iv id0 := by rw [rowAt_of_heap (g2.heap lt1), r1]
    have f2 : W2.rowFree (w.heap.size + 1) = true := by rw [rowFree_of_heap (g2.heap lt1), f1]
    have G2 := Lib.hid (G1.out.trans g2)
    clear g2 hg sa r1 f1 lt1
    go_wp2
    refine bodyPost_ret (v := .agg (iv (hid h).l)) (id_result Try.results26 _ rfl (rowAt_setRow_free _ _ _ f2) hl) rfl ⟨rfl, ?_⟩
    exact G2.out.grown (grownBy_setRow _ _ _) (fun k hk => by cases hk; omega)
end Go.Proofs.Ytommbfgagalckaa
/- head's Level, Work, May. -/
namespace Go.Proofs.Ytommbfgagalckaa
open Go.RowKit
set_option maxRecDepth 100000
set_option linter.unusedVariables false
set_option linter.unusedSimpArgs false
theorem wv_0 : (#[.int .u64 0, .int .u64 0, .int .u64 0, .int .u64 0] : Array Value) = wv 0 := by rfl
@[go_sem] theorem store_wide0 (w : World) (g : Nat) (h : (w.rowAt g).size = 4) (hf : w.rowFree g = true) : (rowStore 26 (.pointer (some ⟨g, 0, none⟩)) (.agg #[.int .u64 0, .int .u64 0, .int .u64 0, .int .u64 0])).run Try.prog w = .ok .skip (w.setRow g (wv 0)) := by
  rw [wv_0]; exact store_wideH w g 0 h hf
set_option maxHeartbeats 3200000 in
theorem hlev_w (h : Hd) (w : World) :
    Calls Try.prog 15 #[.agg (hda h.ht h.a.l h.b.l h.c.l h.d.l h.w.n h.bi h.no)] w fun e w' => e = .returned (.int .i64 (hlev h)) ∧ Grew w w' := by
  have ha := h.a.len
  have hb := h.b.len
  have hc := h.c.len
  have hd := h.d.len
  have hbi := h.hb
  cases ht : tgOk h.bi
  · have e : hlev h = -1 := by unfold hlev; rw [if_neg (by rw [ht]; simp)]
    rw [e]
    go_enter Try.func15, Try.ntmps15
    go_wp2_with (go_at_call 14; refine (target_w h.bi hbi _).mono ?_; rintro e w' ⟨rfl, δ, rfl⟩)
    go_ret
    exact ⟨rfl, (by repeat (first | with_reducible exact Grew.refl _ | with_reducible apply Grew.alloc | with_reducible apply Grew.grow | with_reducible apply Grew.drew | with_reducible apply Grew.drewN))⟩
  by_cases h1 : h.ht < 0
  · have e : hlev h = -1 := by unfold hlev; rw [if_neg (by unfold hok; rw [decide_eq_false (by omega)]; simp)]
    rw [e]
    go_enter Try.func15, Try.ntmps15
    go_wp2_with (go_at_call 14; refine (target_w h.bi hbi _).mono ?_; rintro e w' ⟨rfl, δ, rfl⟩)
    go_ret
    exact ⟨rfl, (by repeat (first | with_reducible exact Grew.refl _ | with_reducible apply Grew.alloc | with_reducible apply Grew.grow | with_reducible apply Grew.drew | with_reducible apply Grew.drewN))⟩
  by_cases h2 : 1048576 < h.ht
  · have e : hlev h = -1 := by unfold hlev; rw [if_neg (by unfold hok; rw [decide_eq_false (by omega)]; simp)]
    rw [e]
    go_enter Try.func15, Try.ntmps15
    go_wp2_with (go_at_call 14; refine (target_w h.bi hbi _).mono ?_; rintro e w' ⟨rfl, δ, rfl⟩)
    go_ret
    exact ⟨rfl, (by repeat (first | with_reducible exact Grew.refl _ | with_reducible apply Grew.alloc | with_reducible apply Grew.grow | with_reducible apply Grew.drew | with_reducible apply Grew.drewN))⟩
  have ho : hok h = true := decide_eq_true (by omega)
  by_cases h0 : h.ht = 0
  · have e : hlev h = 31 := by unfold hlev; rw [if_pos ⟨ht, ho⟩, if_pos h0]
    rw [e]
    go_enter Try.func15, Try.ntmps15
    go_wp2_with (go_at_call 14; refine (target_w h.bi hbi _).mono ?_; rintro e w' ⟨rfl, δ, rfl⟩)
    go_ret
    exact ⟨rfl, (by repeat (first | with_reducible exact Grew.refl _ | with_reducible apply Grew.alloc | with_reducible apply Grew.grow | with_reducible apply Grew.drew | with_reducible apply Grew.drewN))⟩
  · have e : hlev h = lv (hid h) (tg h.bi) := by unfold hlev; rw [if_pos ⟨ht, ho⟩, if_neg h0]
    rw [e]
    clear e ho
    go_enter Try.func15, Try.ntmps15
    go_wp2_with (go_at_call 14; refine (target_w h.bi hbi _).mono ?_; rintro e w' ⟨rfl, δ, rfl⟩)
    first | refine wp_region_pure_lit_g (by kernel_rfl) (by kernel_rfl) ?_ | refine wp_region_pure_lit (by kernel_rfl) (by kernel_rfl) ?_
    repeat (go_big_quiet_step ((first | (go_at_call 12; exact Calls.pure_of (hid_w h _)) | (go_at_call 20; exact Calls.pure_of (level_i _ _ _)))))
    refine wpQuiet_nil ?_
    intro _ hw'
    obtain ⟨δ1, hw''⟩ := hw'
    subst hw''
    go_wp2
    go_ret
    exact ⟨rfl, (by repeat (first | with_reducible exact Grew.refl _ | with_reducible apply Grew.alloc | with_reducible apply Grew.grow | with_reducible apply Grew.drew | with_reducible apply Grew.drewN))⟩
set_option maxHeartbeats 3200000 in
theorem hwork_w (h : Hd) (w : World) :
    Calls Try.prog 17 #[.agg (hda h.ht h.a.l h.b.l h.c.l h.d.l h.w.n h.bi h.no)] w fun e w' => e = .returned (.agg (wv (hwork h).n)) ∧ Grew w w' := by
  have ha := h.a.len
  have hb := h.b.len
  have hc := h.c.len
  have hd := h.d.len
  have hbi := h.hb
  cases ht : tgOk h.bi
  · have e : (hwork h).n = 0 := by unfold hwork; rw [if_neg (by rw [ht]; simp)]; rfl
    rw [e]
    go_enter Try.func17, Try.ntmps17
    go_wp2_with (go_at_call 14; refine (target_w h.bi hbi _).mono ?_; rintro e w' ⟨rfl, δ, rfl⟩)
    refine bodyPost_ret (v := .agg (wv 0)) ?_ rfl ⟨rfl, (by repeat (first | with_reducible exact Grew.refl _ | with_reducible apply Grew.alloc | with_reducible apply Grew.grow | with_reducible apply Grew.drew | with_reducible apply Grew.drewN))⟩
    simp [results, Try.results17, go_sem]
  · have e : hwork h = wk (tg h.bi) := by unfold hwork; rw [if_pos ht]
    rw [e]
    go_enter Try.func17, Try.ntmps17
    go_wp2_with (first | (go_at_call 14; refine (target_w h.bi hbi _).mono ?_; rintro e w' ⟨rfl, δ, rfl⟩) | (go_at_call 18; refine (work_w _ _).mono ?_; rintro e w' ⟨rfl, δ2, rfl⟩))
    refine bodyPost_ret (v := .agg (wv (wk (tg h.bi)).n)) ?_ rfl ⟨rfl, (by repeat (first | with_reducible exact Grew.refl _ | with_reducible apply Grew.alloc | with_reducible apply Grew.grow | with_reducible apply Grew.drew | with_reducible apply Grew.drewN))⟩
    simp [results, Try.results17, go_sem]
set_option maxHeartbeats 3200000 in
theorem hmay_w (h : Hd) (w : World) :
    Calls Try.prog 16 #[.agg (hda h.ht h.a.l h.b.l h.c.l h.d.l h.w.n h.bi h.no)] w fun e w' => e = .returned (.bool (hmay h)) ∧ Grew w w' := by
  have ha := h.a.len
  have hb := h.b.len
  have hc := h.c.len
  have hd := h.d.len
  rw [hmay_ne h]
  go_enter Try.func16, Try.ntmps16
  go_wp2_with (go_at_call 15; refine (hlev_w h _).mono ?_; rintro e w' ⟨rfl, δ, rfl⟩)
  go_ret
  refine ⟨?_, (by repeat (first | with_reducible exact Grew.refl _ | with_reducible apply Grew.alloc | with_reducible apply Grew.grow | with_reducible apply Grew.drew | with_reducible apply Grew.drewN))⟩
  have e : (hlev h == -1) = decide (hlev h = -1) := by rw [Bool.eq_iff_iff, beq_iff_eq, decide_eq_true_eq]
  simp [bne, e]
end Go.Proofs.Ytommbfgagalckaa
/- The document's Work of heads. -/
namespace Go.Proofs.Ytommbfgagalckaa
open Go.RowKit
set_option maxRecDepth 100000
set_option linter.unusedVariables false
set_option linter.unusedSimpArgs false
set_option maxHeartbeats 3200000 in
theorem rhwork_w (h : Hd) (w : World) :
    Calls Try.prog 28 #[.agg (hda h.ht h.a.l h.b.l h.c.l h.d.l h.w.n h.bi h.no)] w fun e w' => e = .returned (.agg (wv (hwork h).n)) ∧ Grew w w' := by
  have ha := h.a.len
  have hb := h.b.len
  have hc := h.c.len
  have hd := h.d.len
  have hbi := h.hb
  cases ht : tgOk h.bi
  · have e : (hwork h).n = 0 := by unfold hwork; rw [if_neg (by rw [ht]; simp)]; rfl
    rw [e]
    go_enter Try.func28, Try.ntmps28
    go_wp2_with (go_at_call 53; refine (rtarget_w h.bi hbi _).mono ?_; rintro e w' ⟨rfl, δ, rfl⟩)
    refine bodyPost_ret (v := .agg (wv 0)) ?_ rfl ⟨rfl, (by repeat (first | with_reducible exact Grew.refl _ | with_reducible apply Grew.alloc | with_reducible apply Grew.grow | with_reducible apply Grew.drew | with_reducible apply Grew.drewN))⟩
    simp [results, Try.results28, go_sem]
  · have e : hwork h = wk (tg h.bi) := by unfold hwork; rw [if_pos ht]
    rw [e]
    go_enter Try.func28, Try.ntmps28
    go_wp2_with (first | (go_at_call 53; refine (rtarget_w h.bi hbi _).mono ?_; rintro e w' ⟨rfl, δ, rfl⟩) | (go_at_call 55; refine (rwork_w _ _).mono ?_; rintro e w' ⟨rfl, δ2, rfl⟩))
    refine bodyPost_ret (v := .agg (wv (wk (tg h.bi)).n)) ?_ rfl ⟨rfl, (by repeat (first | with_reducible exact Grew.refl _ | with_reducible apply Grew.alloc | with_reducible apply Grew.grow | with_reducible apply Grew.drew | with_reducible apply Grew.drewN))⟩
    simp [results, Try.results28, go_sem]
end Go.Proofs.Ytommbfgagalckaa
/- The document's Level, Work, May of heads. -/
namespace Go.Proofs.Ytommbfgagalckaa
open Go.RowKit
set_option maxRecDepth 100000
set_option linter.unusedVariables false
set_option linter.unusedSimpArgs false
set_option maxHeartbeats 3200000 in
theorem rhlev_w (h : Hd) (w : World) :
    Calls Try.prog 27 #[.agg (hda h.ht h.a.l h.b.l h.c.l h.d.l h.w.n h.bi h.no)] w fun e w' => e = .returned (.int .i64 (hlev h)) ∧ Grew w w' := by
  have ha := h.a.len
  have hb := h.b.len
  have hc := h.c.len
  have hd := h.d.len
  have hbi := h.hb
  cases ho : hok h
  · have e : hlev h = -1 := by unfold hlev; rw [if_neg (by rw [ho]; simp)]
    rw [e]
    clear e
    go_enter Try.func27, Try.ntmps27
    go_wp2_with (go_at_call 21; refine stop_of ?_)
    unfold Stop
    refine (rhput_w h _).mono ?_
    rintro e W1 ⟨v, rfl, hs, hg⟩
    have r1 : W1.rowAt w.heap.size = hda h.ht h.a.l h.b.l h.c.l h.d.l h.w.n h.bi h.no := by rw [rowAt_of_heap (hg.heap (by simp))]; simp [go_sem]
    have c0 : W1.cell? ⟨w.heap.size, 0, none⟩ = some (.int .i64 h.ht) := by rw [cell_rowAt, r1]; exact hda_0 _ _ _ _ _ _ _ _ ha hb hc hd
    have c1 : W1.cell? ⟨w.heap.size, 133, none⟩ = some (.int .u32 h.bi) := by rw [cell_rowAt, r1]; exact hda_133 _ _ _ _ _ _ _ _ ha hb hc hd
    have lt1 : w.heap.size < W1.heap.size := Nat.lt_of_lt_of_le (by simp) hg.size
    have G1 := Lib.hid ((show Grew w _ from (by repeat (first | with_reducible exact Grew.refl _ | with_reducible apply Grew.alloc | with_reducible apply Grew.grow | with_reducible apply Grew.drew | with_reducible apply Grew.drewN))).trans hg)
    clear hs hg
    have R1 := Lib.hid r1
    clear r1 c0
    go_wp2_with (go_at_call 53; refine stop_of ?_)
    unfold Stop
    refine (rtarget_w h.bi hbi _).mono ?_
    rintro e W2 ⟨rfl, hg⟩
    have r2 : W2.rowAt w.heap.size = hda h.ht h.a.l h.b.l h.c.l h.d.l h.w.n h.bi h.no := by rw [rowAt_of_heap (hg.heap lt1), R1.out]
    have c2 : W2.cell? ⟨w.heap.size, 0, none⟩ = some (.int .i64 h.ht) := by rw [cell_rowAt, r2]; exact hda_0 _ _ _ _ _ _ _ _ ha hb hc hd
    have lt2 := Nat.lt_of_lt_of_le lt1 hg.size
    have G2 := Lib.hid (G1.out.trans hg)
    have R2 := Lib.hid r2
    clear hg c1 lt1 r2
    go_wp2
    go_ret
    exact ⟨rfl, G2.out.trans (by repeat (first | with_reducible exact Grew.refl _ | with_reducible apply Grew.alloc | with_reducible apply Grew.grow | with_reducible apply Grew.drew | with_reducible apply Grew.drewN))⟩
  cases ht : tgOk h.bi
  · have e : hlev h = -1 := by unfold hlev; rw [if_neg (by rw [ht]; simp)]
    rw [e]
    clear e
    go_enter Try.func27, Try.ntmps27
    go_wp2_with (go_at_call 21; refine stop_of ?_)
    unfold Stop
    refine (rhput_w h _).mono ?_
    rintro e W1 ⟨v, rfl, hs, hg⟩
    have r1 : W1.rowAt w.heap.size = hda h.ht h.a.l h.b.l h.c.l h.d.l h.w.n h.bi h.no := by rw [rowAt_of_heap (hg.heap (by simp))]; simp [go_sem]
    have c0 : W1.cell? ⟨w.heap.size, 0, none⟩ = some (.int .i64 h.ht) := by rw [cell_rowAt, r1]; exact hda_0 _ _ _ _ _ _ _ _ ha hb hc hd
    have c1 : W1.cell? ⟨w.heap.size, 133, none⟩ = some (.int .u32 h.bi) := by rw [cell_rowAt, r1]; exact hda_133 _ _ _ _ _ _ _ _ ha hb hc hd
    have lt1 : w.heap.size < W1.heap.size := Nat.lt_of_lt_of_le (by simp) hg.size
    have G1 := Lib.hid ((show Grew w _ from (by repeat (first | with_reducible exact Grew.refl _ | with_reducible apply Grew.alloc | with_reducible apply Grew.grow | with_reducible apply Grew.drew | with_reducible apply Grew.drewN))).trans hg)
    clear hs hg
    have R1 := Lib.hid r1
    clear r1 c0
    go_wp2_with (go_at_call 53; refine stop_of ?_)
    unfold Stop
    refine (rtarget_w h.bi hbi _).mono ?_
    rintro e W2 ⟨rfl, hg⟩
    have r2 : W2.rowAt w.heap.size = hda h.ht h.a.l h.b.l h.c.l h.d.l h.w.n h.bi h.no := by rw [rowAt_of_heap (hg.heap lt1), R1.out]
    have c2 : W2.cell? ⟨w.heap.size, 0, none⟩ = some (.int .i64 h.ht) := by rw [cell_rowAt, r2]; exact hda_0 _ _ _ _ _ _ _ _ ha hb hc hd
    have lt2 := Nat.lt_of_lt_of_le lt1 hg.size
    have G2 := Lib.hid (G1.out.trans hg)
    have R2 := Lib.hid r2
    clear hg c1 lt1 r2
    go_wp2
    go_ret
    exact ⟨rfl, G2.out.trans (by repeat (first | with_reducible exact Grew.refl _ | with_reducible apply Grew.alloc | with_reducible apply Grew.grow | with_reducible apply Grew.drew | with_reducible apply Grew.drewN))⟩
  by_cases h0 : h.ht = 0
  · have e : hlev h = 31 := by unfold hlev; rw [if_pos ⟨ht, ho⟩, if_pos h0]
    rw [e]
    have H0 := Lib.hid h0
    clear e h0
    go_enter Try.func27, Try.ntmps27
    go_wp2_with (go_at_call 21; refine stop_of ?_)
    unfold Stop
    refine (rhput_w h _).mono ?_
    rintro e W1 ⟨v, rfl, hs, hg⟩
    have r1 : W1.rowAt w.heap.size = hda h.ht h.a.l h.b.l h.c.l h.d.l h.w.n h.bi h.no := by rw [rowAt_of_heap (hg.heap (by simp))]; simp [go_sem]
    have c0 : W1.cell? ⟨w.heap.size, 0, none⟩ = some (.int .i64 h.ht) := by rw [cell_rowAt, r1]; exact hda_0 _ _ _ _ _ _ _ _ ha hb hc hd
    have c1 : W1.cell? ⟨w.heap.size, 133, none⟩ = some (.int .u32 h.bi) := by rw [cell_rowAt, r1]; exact hda_133 _ _ _ _ _ _ _ _ ha hb hc hd
    have lt1 : w.heap.size < W1.heap.size := Nat.lt_of_lt_of_le (by simp) hg.size
    have G1 := Lib.hid ((show Grew w _ from (by repeat (first | with_reducible exact Grew.refl _ | with_reducible apply Grew.alloc | with_reducible apply Grew.grow | with_reducible apply Grew.drew | with_reducible apply Grew.drewN))).trans hg)
    clear hs hg
    have R1 := Lib.hid r1
    clear r1 c0
    go_wp2_with (go_at_call 53; refine stop_of ?_)
    unfold Stop
    refine (rtarget_w h.bi hbi _).mono ?_
    rintro e W2 ⟨rfl, hg⟩
    have r2 : W2.rowAt w.heap.size = hda h.ht h.a.l h.b.l h.c.l h.d.l h.w.n h.bi h.no := by rw [rowAt_of_heap (hg.heap lt1), R1.out]
    have c2 : W2.cell? ⟨w.heap.size, 0, none⟩ = some (.int .i64 h.ht) := by rw [cell_rowAt, r2]; exact hda_0 _ _ _ _ _ _ _ _ ha hb hc hd
    have lt2 := Nat.lt_of_lt_of_le lt1 hg.size
    have G2 := Lib.hid (G1.out.trans hg)
    have R2 := Lib.hid r2
    rw [H0.out] at c2
    clear hg c1 lt1 r2
    go_wp2
    go_ret
    exact ⟨rfl, G2.out.trans (by repeat (first | with_reducible exact Grew.refl _ | with_reducible apply Grew.alloc | with_reducible apply Grew.grow | with_reducible apply Grew.drew | with_reducible apply Grew.drewN))⟩
  · have e : hlev h = lv (hid h) (tg h.bi) := by unfold hlev; rw [if_pos ⟨ht, ho⟩, if_neg h0]
    rw [e]
    clear e
    go_enter Try.func27, Try.ntmps27
    go_wp2_with (go_at_call 21; refine stop_of ?_)
    unfold Stop
    refine (rhput_w h _).mono ?_
    rintro e W1 ⟨v, rfl, hs, hg⟩
    have r1 : W1.rowAt w.heap.size = hda h.ht h.a.l h.b.l h.c.l h.d.l h.w.n h.bi h.no := by rw [rowAt_of_heap (hg.heap (by simp))]; simp [go_sem]
    have c0 : W1.cell? ⟨w.heap.size, 0, none⟩ = some (.int .i64 h.ht) := by rw [cell_rowAt, r1]; exact hda_0 _ _ _ _ _ _ _ _ ha hb hc hd
    have c1 : W1.cell? ⟨w.heap.size, 133, none⟩ = some (.int .u32 h.bi) := by rw [cell_rowAt, r1]; exact hda_133 _ _ _ _ _ _ _ _ ha hb hc hd
    have lt1 : w.heap.size < W1.heap.size := Nat.lt_of_lt_of_le (by simp) hg.size
    have G1 := Lib.hid ((show Grew w _ from (by repeat (first | with_reducible exact Grew.refl _ | with_reducible apply Grew.alloc | with_reducible apply Grew.grow | with_reducible apply Grew.drew | with_reducible apply Grew.drewN))).trans hg)
    clear hs hg
    have R1 := Lib.hid r1
    clear r1 c0
    go_wp2_with (go_at_call 53; refine stop_of ?_)
    unfold Stop
    refine (rtarget_w h.bi hbi _).mono ?_
    rintro e W2 ⟨rfl, hg⟩
    have r2 : W2.rowAt w.heap.size = hda h.ht h.a.l h.b.l h.c.l h.d.l h.w.n h.bi h.no := by rw [rowAt_of_heap (hg.heap lt1), R1.out]
    have c2 : W2.cell? ⟨w.heap.size, 0, none⟩ = some (.int .i64 h.ht) := by rw [cell_rowAt, r2]; exact hda_0 _ _ _ _ _ _ _ _ ha hb hc hd
    have lt2 := Nat.lt_of_lt_of_le lt1 hg.size
    have G2 := Lib.hid (G1.out.trans hg)
    have R2 := Lib.hid r2
    clear hg c1 lt1 r2
    have r2 := R2.out
    go_wp2
    refine code_abs ?_
    intro Y hY
    have g3 : Grew W2 Y := by rw [hY]; exact (by repeat (first | with_reducible exact Grew.refl _ | with_reducible apply Grew.alloc | with_reducible apply Grew.grow | with_reducible apply Grew.drew | with_reducible apply Grew.drewN))
    have rY : Y.rowAt w.heap.size = hda h.ht h.a.l h.b.l h.c.l h.d.l h.w.n h.bi h.no := by rw [rowAt_of_heap (g3.heap lt2), r2]
    have ltY : w.heap.size < Y.heap.size := Nat.lt_of_lt_of_le lt2 g3.size
    have rT : Y.rowAt W2.heap.size = wv (tg h.bi).n := by rw [hY]; simp [go_sem]
    have ltT : W2.heap.size < Y.heap.size := by rw [hY]; simp
    have G3 := Lib.hid (G2.out.trans g3)
    clear hY g3 r2 c2
    first | refine wp_region_pure_lit_g (by kernel_rfl) (by kernel_rfl) ?_ | refine wp_region_pure_lit (by kernel_rfl) (by kernel_rfl) ?_
    repeat (go_big_quiet_step ((first | (go_at_call 26; exact Calls.pure_of (rhid_w h _)) | (go_at_call 54; exact Calls.pure_of (rlevel_i _ _ _)))))
    refine wpQuiet_nil ?_
    intro _ hw'
    obtain ⟨δ1, hw''⟩ := hw'
    subst hw''
    go_wp2
    go_ret
    exact ⟨rfl, G3.out.trans (by repeat (first | with_reducible exact Grew.refl _ | with_reducible apply Grew.alloc | with_reducible apply Grew.grow | with_reducible apply Grew.drew | with_reducible apply Grew.drewN))⟩
set_option maxHeartbeats 3200000 in
theorem rhmay_w (h : Hd) (w : World) :
    Calls Try.prog 25 #[.agg (hda h.ht h.a.l h.b.l h.c.l h.d.l h.w.n h.bi h.no)] w fun e w' => e = .returned (.bool (hmay h)) ∧ Grew w w' := by
  have ha := h.a.len
  have hb := h.b.len
  have hc := h.c.len
  have hd := h.d.len
  unfold hmay
  go_enter Try.func25, Try.ntmps25
  go_wp2_with (go_at_call 27; refine (rhlev_w h _).mono ?_; rintro e w' ⟨rfl, δ, rfl⟩)
  go_ret
  exact ⟨rfl, (by repeat (first | with_reducible exact Grew.refl _ | with_reducible apply Grew.alloc | with_reducible apply Grew.grow | with_reducible apply Grew.drew | with_reducible apply Grew.drewN))⟩
end Go.Proofs.Ytommbfgagalckaa
/- The document's Mine. -/
namespace Go.Proofs.Ytommbfgagalckaa
open Go.RowKit
set_option maxRecDepth 100000
set_option linter.unusedVariables false
set_option linter.unusedSimpArgs false
theorem Hd.up_next (h : Hd) (i : Nat) : (h.up i).at ((h.up i).no + 1) = h.up (i + 1) := by
  refine Hd.ext' rfl rfl rfl rfl rfl rfl rfl ?_
  show ((h.no + i) % 18446744073709551616 + 1) % 18446744073709551616 = (h.no + (i + 1)) % 18446744073709551616
  omega
theorem firstM_step {h : Hd} {i n : Nat} (hm : hmay (h.up i) = false) : firstM h i (n + 1) = firstM h (i + 1) n := by
  show (if hmay (h.up i) then some i else firstM h (i + 1) n) = _
  rw [if_neg (by rw [hm]; decide)]
theorem firstM_here {h : Hd} {i n : Nat} (hm : hmay (h.up i) = true) : firstM h i (n + 1) = some i := by
  show (if hmay (h.up i) then some i else firstM h (i + 1) n) = _
  rw [if_pos hm]
/-- Where mining stands. -/
structure MnS (h : Hd) (w W : World) (k : Nat) : Prop where
  b : W.rowAt w.heap.size = hda h.ht h.a.l h.b.l h.c.l h.d.l h.w.n h.bi h.no
  r : W.rowAt (w.heap.size + 1) = hda 0 id0 id0 id0 id0 0 0 0
  rf : W.rowFree (w.heap.size + 1) = true
  x : W.rowAt (w.heap.size + 1 + 1) = hda h.ht h.a.l h.b.l h.c.l h.d.l h.w.n h.bi (h.up k).no
  xf : W.rowFree (w.heap.size + 1 + 1) = true
  lt : w.heap.size + 1 + 1 < W.heap.size
  gr : Grew w W
theorem MnS.grew {h : Hd} {w W W' : World} {k : Nat} (s : MnS h w W k) (g : Grew W W') : MnS h w W' k := by
  have l := s.lt
  exact ⟨by rw [rowAt_of_heap (g.heap (by omega)), s.b], by rw [rowAt_of_heap (g.heap (by omega)), s.r], by rw [rowFree_of_heap (g.heap (by omega)), s.rf], by rw [rowAt_of_heap (g.heap l), s.x], by rw [rowFree_of_heap (g.heap l), s.xf], Nat.lt_of_lt_of_le l g.size, s.gr.trans g⟩
theorem MnS.next {h : Hd} {w W : World} {k : Nat} (s : MnS h w W k) : MnS h w (W.setCell ⟨w.heap.size + 1 + 1, 134, none⟩ (.int .u64 ((h.up (k + 1)).no : Nat))) (k + 1) := by
  have h2 := setCell_setRow_free W (w.heap.size + 1 + 1) (W.rowAt (w.heap.size + 1 + 1)) s.xf 134 (.int .u64 ((h.up (k + 1)).no : Nat))
  rw [setRow_same' _ _ s.xf, s.x, set_no _ _ _ _ _ _ _ _ h.a.len h.b.len h.c.len h.d.len] at h2
  rw [h2]
  have e : ∀ j, j ≠ w.heap.size + 1 + 1 → (W.setRow (w.heap.size + 1 + 1) (hda h.ht h.a.l h.b.l h.c.l h.d.l h.w.n h.bi (h.up (k + 1)).no)).heap[j]? = W.heap[j]? := fun j hj => World.heap_setRow_ne _ _ _ _ (fun e => hj e.symm)
  exact ⟨by rw [rowAt_of_heap (e _ (by omega)), s.b], by rw [rowAt_of_heap (e _ (by omega)), s.r], by rw [rowFree_of_heap (e _ (by omega)), s.rf], rowAt_setRow_free _ _ _ s.xf, rowFree_setRow_free _ _ _ s.xf, by rw [setRow_size]; exact s.lt, s.gr.grown (grownBy_setRow _ _ _) (fun j hj => by cases hj; omega)⟩
end Go.Proofs.Ytommbfgagalckaa
/- The document's Mine: the walk. -/
namespace Go.Proofs.Ytommbfgagalckaa
open Go.RowKit
set_option maxRecDepth 100000
set_option linter.unusedVariables false
set_option linter.unusedSimpArgs false
set_option maxHeartbeats 3200000 in
theorem rhmine_w (h : Hd) (tries : Int) (w : World) :
    Calls Try.prog 24 #[.agg (hda h.ht h.a.l h.b.l h.c.l h.d.l h.w.n h.bi h.no), .int .i64 tries] w fun e w' => e = .returned (.tuple #[(hmine h tries).1.v, .bool (hmine h tries).2]) ∧ Grew w w' := by
  have ha := h.a.len
  have hb := h.b.len
  have hc := h.c.len
  have hd := h.d.len
  go_enter Try.func24, Try.ntmps24
  go_wp2
  go_loopw [7] (fun i wr => ∃ k : Nat, k ≤ tryN tries ∧ i = .int .i64 k ∧ MnS h w wr k ∧ firstM h 0 (tryN tries) = firstM h k (tryN tries - k)) (fun i _ => tryN tries - (intOf i).toNat)
  case atStart => exact ⟨0, by omega, rfl, ⟨by simp [go_sem], by simp [go_sem], by simp [go_sem], by simp only [show (h.up 0).no = h.no from congrArg Hd.no h.up_zero]; simp [go_sem], by simp [go_sem], by simp, (by repeat (first | with_reducible exact Grew.refl _ | with_reducible apply Grew.alloc | with_reducible apply Grew.grow | with_reducible apply Grew.drew | with_reducible apply Grew.drewN))⟩, by rw [Nat.sub_zero]⟩
  case round =>
    obtain ⟨k, hk, rfl, hst, hf⟩ := hrel
    have S := Lib.hid hst
    have F := Lib.hid hf
    by_cases hlt : k < tryN tries
    · have h1 : (k : Int) < tries := by unfold tryN at hlt; omega
      have h2 : (k : Int) < 200 := by unfold tryN at hlt; omega
      have rx := hst.x
      have lx := hst.lt
      have K := Lib.hid hlt
      clear hst hf hlt hk
      go_wp2_with (go_at_call 25; refine stop_of ?_)
      unfold Stop
      refine (rhmay_w (h.up k) wr).mono ?_
      rintro e W1 ⟨rfl, hg⟩
      have s1 := S.out.grew hg
      have S1 := Lib.hid s1
      have rX := s1.x
      have fX := s1.xf
      have fR := s1.rf
      have rR := s1.r
      have cX : W1.cell? ⟨w.heap.size + 1 + 1, 134, none⟩ = some (.int .u64 ((h.up k).no : Nat)) := by rw [cell_rowAt, rX]; exact hda_134 _ _ _ _ _ _ _ _ ha hb hc hd
      have zX : W1.frozen? ⟨w.heap.size + 1 + 1, 134, none⟩ = false := by
        have := (there_row fX (o := 134) (n := 1) (by rw [rX, hda_size _ _ _ _ _ _ _ _ ha hb hc hd]; omega) 0 (by omega)).2
        rwa [Nat.add_zero] at this
      obtain ⟨n0, hn0⟩ : ∃ n, (h.up k).no = n := ⟨_, rfl⟩
      have nb : n0 < 18446744073709551616 := by rw [← hn0]; exact (h.up k).hn
      have nx : (h.up (k + 1)).no = (n0 + 1) % 18446744073709551616 := by rw [← hn0, ← Hd.up_next]; rfl
      cases hm : hmay (h.up k)
      · rw [hn0] at cX rX
        have FS := Lib.hid (firstM_step (n := tryN tries - (k + 1)) hm)
        have NX := Lib.hid nx
        clear hg s1 rx lx hm nx hn0
        go_wp2
        refine ⟨⟨k + 1, K.out, by go_num, ?_, ?_⟩, by have := K.out; simp only [intOf]; omega⟩
        · have e : IntKind.u64.wrap ((n0 : Int) + 1) = (((n0 + 1) % 18446744073709551616 : Nat) : Int) := by rw [IntKind.wrap_u64]; omega
          have t := S1.out.next
          rw [NX.out] at t
          rw [e]
          exact t
        · have e2 : tryN tries - k = tryN tries - (k + 1) + 1 := by have := K.out; omega
          rw [F.out, e2, FS.out]
      · have e2 : tryN tries - k = tryN tries - (k + 1) + 1 := by have := K.out; omega
        have e3 : hmine h tries = (h.up k, true) := by
          unfold hmine
          rw [F.out, e2, firstM_here hm]
        have E := Lib.hid e3
        clear hg s1 rx lx nx hn0 e2 e3
        go_wp2
        rw [E.out]
        refine bodyPost_ret (v := .tuple #[(h.up k).v, .bool true]) (head_slot_result Try.results24 _ rfl rfl (rowAt_setRow_free _ _ _ fR) (hda_size _ _ _ _ _ _ _ _ ha hb hc hd)) rfl ⟨rfl, ?_⟩
        exact S1.out.gr.grown (grownBy_setRow _ _ _) (fun j hj => by cases hj; omega)
    · have h1 : ¬ (k : Int) < tries ∨ ((k : Int) < tries ∧ ¬ (k : Int) < 200) := by unfold tryN at hlt; omega
      have e3 : hmine h tries = (h, false) := by
        unfold hmine
        rw [hf, show tryN tries - k = 0 by omega]
        rfl
      have E := Lib.hid e3
      have rB := hst.b
      have fR := hst.rf
      have rR := hst.r
      have lx := hst.lt
      clear hst hf e3 hlt hk
      rcases h1 with h1 | ⟨h1, h2⟩
      all_goals
        go_wp2
        rw [E.out]
        refine bodyPost_ret (v := .tuple #[h.v, .bool false]) (head_slot_result Try.results24 _ rfl rfl (rowAt_setRow_free _ _ _ fR) (hda_size _ _ _ _ _ _ _ _ ha hb hc hd)) rfl ⟨rfl, ?_⟩
        exact S.out.gr.grown (grownBy_setRow _ _ _) (fun j hj => by cases hj; omega)
end Go.Proofs.Ytommbfgagalckaa
/- A range over a function that writes, between two rounds, a block of its own that lay ahead of the loop ('g': a variable that it has boxed). It goes the way of the library's 'wpIn_rangeFunc_ownH'. No program in sight. -/
namespace Go
set_option linter.unusedVariables false
set_option linter.unusedSimpArgs false
open Go.RowKit
variable {F : Fence} {n : Nat} {P : Program}
/-- It abides a turn of block g, too. -/
def MovesFrom {β : Type} (g B : Nat) (J : β → World → Prop) : Prop :=
  ∀ s W W' row, J s W → W.grownBy W' row → (∀ r, row = some r → r = g ∨ (B ≤ r ∧ ∃ o : Obj, W.heap[r]? = some o ∧ o.isWalk = true)) → J s W'
def OwnMoves {β : Type} (g B : Nat) (I : β → World → Prop) : Prop :=
  ∀ s W W' row, I s W → W.grownBy W' row → (∀ r, row = some r → r = g ∨ (B ≤ r ∧ ∃ o : Obj, W.heap[r]? = some o ∧ o.isCells = false)) → I s W'
theorem OwnMoves.from {β : Type} {g B : Nat} {I : β → World → Prop} (h : OwnMoves g B I) : OwnFrom B I := fun s W W' row hs hg hr => h s W W' row hs hg (fun r e => .inr (hr r e))
/-- The iterator's contract. -/
def SeqMoves {α : Type} (F : Fence) (n : Nat) (P : Program) (f : Nat) (lb : Array Value) (encs : α → Array Value) (g : Nat) (Kp : World → World → Prop) (S Sp : List α → Prop) (N : Nat) (w : World) : Prop :=
  ∀ (l : Nat) (J Jx : List α → World → Prop) (W : World), Below w.heap.size w W → MovesFrom g W.heap.size J → MovesFrom g W.heap.size Jx →
    (∀ pre x W1, J pre W1 → pre.length < N → YieldAt F (n - 1) P l (encs x) W1 fun e W' => (e = .returned (.bool true) ∧ J (pre ++ [x]) W' ∧ Kp W1 W') ∨ (e = .returned (.bool false) ∧ Jx (pre ++ [x]) W')) →
    J [] W → CallsIn F n P f (#[.func (.yield l) #[] #[]] ++ lb) W fun e W' => (∃ v, e = .returned v) ∧ ((∃ xs, S xs ∧ J xs W') ∨ (∃ pre, Sp pre ∧ Jx pre W'))
theorem wpIn_rangeFunc_moves {α : Type} {g : Operand} {ps : Array Tmp} {assign body : Code} {Q : Exit → Act → World → Prop} {a : Act} {w : World}
    (hro : F.round = none) (h1 : 1 ≤ n) {gf : Nat} {lb : Array Value} (hg : a.eval g = .func (.func gf) #[] lb) (hFg : F.fn gf) (eg : ∀ args w, (callFunc gf args).run P w = .ok (.enter gf args) w)
    {encs : α → Array Value} {gb : Nat} {Kp : World → World → Prop} {S Sp : List α → Prop} {N : Nat} {w0 : World} (hseq : SeqMoves F (n - 1) P gf lb encs gb Kp S Sp N w0) (hgb : gb < w.heap.size)
    (hKt : ∀ {A B C : World}, Kp A B → Kp B C → Kp A C) (hKb : ∀ (W : World) (l : Nat) (o o' : Obj), w.heap.size ≤ l → W.heap[l]? = some o → o.isCells = false → o.isWalk = false → Kp W (W.putObj l o')) (hb0 : Below w0.heap.size w0 w) (hps : ∀ x, (encs x).size = ps.size)
    (I : List α → World → Prop) (Ix : Code → List α → World → Prop) (hIm : OwnMoves gb w.heap.size I) (hIxm : ∀ c, OwnMoves gb w.heap.size (Ix c)) (h0 : I [] w) (Ax : List α → α → Act → World → Prop) (hAx : ∀ pre x a', OwnFrom w.heap.size (fun (_ : Unit) W => Ax pre x a' W))
    (hassign : ∀ (l : Nat) (pre : List α) (x : α) (W : World) (K : Act → World → Prop), I pre W → (∀ a' W', KeepsFrom w.heap.size W W' → Kp W W' → I pre W' → Ax pre x a' W' → K a' W') →
      assign.wpIn (F.inRound l) (n - 1 - 1) P (Exit.then K (fun _ _ _ => False)) { tmps := (ps.zip (encs x)).foldl (fun t (p, v) => t.setIfInBounds p v) a.tmps, defers := [] } W)
    (hbody : ∀ (l : Nat) (pre : List α) (x : α) (a' : Act) (W : World), w.heap.size ≤ l → (∃ r, W.heap[l]? = some (.loop r)) → I pre W → Ax pre x a' W → pre.length < N → body.wpIn (F.inRound l) (n - 1 - 1) P (ownPostG w.heap.size Kp I Ix (pre ++ [x]) W) a' W)
    (hdone : ∀ (D : Nat) (xs : List α) (W : World), w.heap.size ≤ D → S xs → I xs W → W.heap[D]? = some (.deferred (some [])) → Q .normal { a with defers := { target := .collected D, args := #[] } :: a.defers } W)
    (hstop : ∀ (D : Nat) (c : Code) (pre : List α) (W : World), w.heap.size ≤ D → Sp pre → Ix c pre W → W.heap[D]? = some (.deferred (some [])) → c.wpIn F n P Q { a with defers := { target := .collected D, args := #[] } :: a.defers } W) :
    (Code.rangeFunc g ps assign body).wpIn F n P Q a w := by
  have hI : OwnFrom w.heap.size I := hIm.from
  have hIx : ∀ c, OwnFrom w.heap.size (Ix c) := fun c => (hIxm c).from
  refine wpIn_rangeFunc ?_
  intro fn hfn
  rw [hro]
  -- the loop's record, and the block of the rounds' deferred calls
  obtain ⟨R, hR⟩ : ∃ R : LoopState → Option Code → Obj, R = fun st pe => .loop { state := st, pending := pe, fn, tmps := a.tmps, params := ps, assign, body, defers := w.heap.size } := ⟨_, rfl⟩
  have nc : ∀ st pe, (R st pe).isCells = false := fun st pe => by rw [hR]; rfl
  have nw : ∀ st pe, (R st pe).isWalk = false := fun st pe => by rw [hR]; rfl
  obtain ⟨V, hV⟩ : ∃ V, (w.alloc (.deferred (some []))).alloc (R .ready none) = V := ⟨_, rfl⟩
  have vR : V.heap[w.heap.size + 1]? = some (R .ready none) := by
    rw [← hV]; have := World.alloc_heap_new (w.alloc (.deferred (some []))) (R .ready none); rwa [World.size_alloc] at this
  have vD : V.heap[w.heap.size]? = some (.deferred (some [])) := by
    rw [← hV]; exact (Below.heap_alloc _ _ _ (by simp)).trans (World.alloc_heap_new w _)
  have vI : I [] V := by rw [← hV]; exact hI.alloc _ (hI.alloc _ h0)
  have vB : Below w0.heap.size w0 V := by
    rw [← hV]; exact hb0.trans ((((Below.refl _ w).alloc (Nat.le_refl _) _).alloc (by simp) _).mono hb0.size)
  have vS : w.heap.size ≤ V.heap.size := by rw [← hV]; simp; omega
  have moved : ∀ {A : World} {row : Option Nat}, (∀ r, row = some r → r = gb ∨ (V.heap.size ≤ r ∧ ∃ o : Obj, A.heap[r]? = some o ∧ o.isWalk = true)) → ∀ r, row = some r → r = gb ∨ (w.heap.size ≤ r ∧ ∃ o : Obj, A.heap[r]? = some o ∧ o.isCells = false) :=
    fun hr r e => by
      rcases hr r e with h | ⟨hB, o, ho, hw⟩
      · exact .inl h
      · exact .inr ⟨Nat.le_trans vS hB, o, ho, Obj.not_cells_of_walk hw⟩
  have stays : ∀ {A B : World} {row : Option Nat} {k : Nat} {o : Obj}, A.grownBy B row → (∀ r, row = some r → r = gb ∨ (V.heap.size ≤ r ∧ ∃ o : Obj, A.heap[r]? = some o ∧ o.isWalk = true)) → w.heap.size ≤ k → A.heap[k]? = some o → o.isWalk = false → B.heap[k]? = some o :=
    fun {A B row k o} hg' hr hk ho hw => by
      refine (hg'.block k (Array.getElem?_eq_some_iff.1 ho).1 (fun e => ?_)).trans ho
      rcases hr k e.symm with h | ⟨_, o', ho', hw'⟩
      · omega
      · rw [ho] at ho'; cases ho'; rw [hw] at hw'; cases hw'
  refine ⟨w.heap.size + 1, [{ target := .collected w.heap.size, args := #[] }], V, { target := .fn (.func gf) lb, args := #[.func (.yield (w.heap.size + 1)) #[] #[]] }, V, gf,
    #[.func (.yield (w.heap.size + 1)) #[] #[]] ++ lb, V, by rw [← hV, hR]; exact run_enterLoop_outer _ _ _ _ _, by simp only [resolve, hg]; simp [go_sem], by intro f' hf'; simp [Target.leads] at hf'; subst hf'; exact hFg, by simp [invoke, go_sem, eg], fun _ => h1, ?_⟩
  refine (hseq (w.heap.size + 1)
    (fun pre W => I pre W ∧ W.heap[w.heap.size + 1]? = some (R .ready none) ∧ W.heap[w.heap.size]? = some (.deferred (some [])))
    (fun pre W => ∃ c, Ix c pre W ∧ W.heap[w.heap.size + 1]? = some (R .done (some c)) ∧ W.heap[w.heap.size]? = some (.deferred (some []))) V vB ?_ ?_ ?_ ⟨vI, vR, vD⟩).mono ?_
  · rintro s A B row ⟨s1, s2, s3⟩ hg' hr
    exact ⟨hIm s A B row s1 hg' (moved hr), stays hg' hr (by omega) s2 (nw _ _), stays hg' hr (Nat.le_refl _) s3 rfl⟩
  · rintro s A B row ⟨c, s1, s2, s3⟩ hg' hr
    exact ⟨c, hIxm c s A B row s1 hg' (moved hr), stays hg' hr (by omega) s2 (nw _ _), stays hg' hr (Nat.le_refl _) s3 rfl⟩
  · -- one round
    rintro pre x W ⟨hi, hl, _⟩ hlen
    have hl' := hl
    rw [hR] at hl'
    have hy := run_yield (P := P) (args := encs x) hl' (hps x)
    refine ⟨fn, _, assign, body, hy, roundIn_of_wpIn hfn (hassign _ pre x W _ hi ?_)⟩
    intro a' U hkf hkp hiU hax
    have uR := hkf.same _ _ (by omega) hl (nc _ _)
    have uD := hkf.same _ _ (Nat.le_refl _) (show W.heap[w.heap.size]? = some (.deferred (some [])) by assumption) rfl
    have uS : w.heap.size + 1 < U.heap.size := (Array.getElem?_eq_some_iff.1 uR).1
    have uR' := uR
    rw [hR] at uR'
    refine ⟨_, run_beginRound uR' rfl, ?_⟩
    obtain ⟨Z, hZ⟩ : ∃ Z, U.putObj (w.heap.size + 1) (R .busy none) = Z := ⟨_, rfl⟩
    have e1 : U.putObj (w.heap.size + 1) (.loop { state := .busy, pending := none, fn, tmps := a.tmps, params := ps, assign, body, defers := w.heap.size }) = Z := by rw [← hZ, hR]
    show body.wpIn (F.inRound (w.heap.size + 1)) (n - 1 - 1) P _ a' (U.putObj (w.heap.size + 1) (.loop { state := .busy, pending := none, fn, tmps := a.tmps, params := ps, assign, body, defers := w.heap.size }))
    rw [e1]
    have zR : Z.heap[w.heap.size + 1]? = some (R .busy none) := by rw [← hZ]; exact World.putObj_heap_same uS
    have zD : Z.heap[w.heap.size]? = some (.deferred (some [])) := by rw [← hZ]; exact (World.putObj_heap_other (by omega)).trans uD
    have zI : I pre Z := by rw [← hZ]; exact hI.putObj _ hiU (by omega) uR (nc _ _)
    have zA : Ax pre x a' Z := by rw [← hZ]; exact (hAx pre x a').putObj (s := ()) _ hax (by omega) uR (nc _ _)
    have zK : Kp U Z := by rw [← hZ]; exact hKb _ _ _ _ (by omega) uR (nc _ _) (nw _ _)
    -- a round's end
    have fin : ∀ (jump : Option Code) (Y : World), KeepsFrom w.heap.size Z Y → ∃ Y', (Instr.endRound (w.heap.size + 1) jump).run P Y = .ok (.bool jump.isNone) Y' ∧ Y' = Y.putObj (w.heap.size + 1) (R (if jump.isNone then .ready else .done) jump) ∧
        Y.heap[w.heap.size + 1]? = some (R .busy none) ∧ Y'.heap[w.heap.size + 1]? = some (R (if jump.isNone then .ready else .done) jump) ∧ Y'.heap[w.heap.size]? = some (.deferred (some [])) := fun jump Y hk => by
      have yR := hk.same _ _ (by omega) zR (nc _ _)
      have yR' := yR
      rw [hR] at yR'
      refine ⟨_, run_endRound jump yR', by rw [hR], yR, ?_, (World.putObj_heap_other (by omega)).trans (hk.same _ _ (Nat.le_refl _) zD rfl)⟩
      have := World.putObj_heap_same (o := R (if jump.isNone then .ready else .done) jump) (Array.getElem?_eq_some_iff.1 yR).1
      rw [hR] at this ⊢
      exact this
    refine wpIn_mono (hbody _ pre x a' Z (by omega) ⟨_, by rw [zR, hR]⟩ zI zA hlen) ?_
    rintro e a3 Y hp
    cases e with
    | normal =>
      obtain ⟨k1, k2, k3⟩ := hp
      obtain ⟨Y', r1, rfl, r3, r4, r5⟩ := fin none Y k1
      exact ⟨_, _, r1, .inl ⟨rfl, ⟨hI.putObj _ k3 (by omega) r3 (nc _ _), r4, r5⟩, hKt hkp (hKt (hKt zK k2) (hKb _ _ _ _ (by omega) r3 (nc _ _) (nw _ _)))⟩⟩
    | ret =>
      obtain ⟨k1, k3⟩ := hp
      obtain ⟨Y', r1, rfl, r3, r4, r5⟩ := fin (some .ret) Y k1
      exact ⟨_, _, r1, .inr ⟨rfl, .ret, (hIx _).putObj _ k3 (by omega) r3 (nc _ _), r4, r5⟩⟩
    | exit id =>
      obtain ⟨k1, k3⟩ := hp
      obtain ⟨Y', r1, rfl, r3, r4, r5⟩ := fin (some (.exit id)) Y k1
      exact ⟨_, _, r1, .inr ⟨rfl, .exit id, (hIx _).putObj _ k3 (by omega) r3 (nc _ _), r4, r5⟩⟩
    | goto t =>
      obtain ⟨k1, k3⟩ := hp
      obtain ⟨Y', r1, rfl, r3, r4, r5⟩ := fin (some (.goto t)) Y k1
      exact ⟨_, _, r1, .inr ⟨rfl, .goto t, (hIx _).putObj _ k3 (by omega) r3 (nc _ _), r4, r5⟩⟩
    | panic ch => exact hp.elim
    | outgrown => exact hp.elim
  · -- behind the iterator
    rintro e U ⟨⟨v, rfl⟩, ⟨xs, hS, hi, hl, hk⟩ | ⟨pre, hSp, c, hi, hl, hk⟩⟩
    · have hl' := hl
      rw [hR] at hl'
      exact ⟨none, _, run_endLoop hl' (by simp), hdone _ xs _ (Nat.le_refl _) hS (hI.putObj _ hi (by omega) hl (nc _ _)) ((World.putObj_heap_other (by omega)).trans hk)⟩
    · have hl' := hl
      rw [hR] at hl'
      exact ⟨some c, _, run_endLoop hl' (by simp), hstop _ c pre _ (Nat.le_refl _) hSp ((hIx c).putObj _ hi (by omega) hl (nc _ _)) ((World.putObj_heap_other (by omega)).trans hk)⟩
end Go
namespace Go.Proofs.Ytommbfgagalckaa
end Go.Proofs.Ytommbfgagalckaa
/- head.nonces: the function, and the one that it hands back. -/
namespace Go.Proofs.Ytommbfgagalckaa
open Go.RowKit Go.Shelf
set_option maxRecDepth 100000
set_option linter.unusedVariables false
set_option linter.unusedSimpArgs false
attribute [local go_sem] Oper.semAt_some
theorem firstM_is {h : Hd} {k : Nat} (hk : hmay (h.up k) = true) : ∀ {n i : Nat}, i ≤ k → k < i + n → (∀ j, i ≤ j → j < k → hmay (h.up j) = false) → firstM h i n = some k
  | 0, i, h1, h2, _ => by omega
  | n + 1, i, h1, h2, hj => by
    rcases Nat.eq_or_lt_of_le h1 with rfl | h3
    · exact firstM_here hk
    · rw [firstM_step (hj i (Nat.le_refl _) h3)]
      exact firstM_is hk h3 (by omega) (fun j a b => hj j (by omega) b)
theorem firstM_not {h : Hd} : ∀ {n i : Nat}, (∀ j, i ≤ j → j < i + n → hmay (h.up j) = false) → firstM h i n = none
  | 0, i, _ => rfl
  | n + 1, i, hj => by
    rw [firstM_step (hj i (Nat.le_refl _) (by omega))]
    exact firstM_not (fun j a b => hj j (by omega) (by omega))
/-- What lay ahead of 'n1' lies as it lay. -/
abbrev Lies (n1 : Nat) (W W' : World) : Prop := KeptBut n1 n1 W W'
theorem Lies.row {n1 : Nat} {W W' : World} (h : Lies n1 W W') {g : Nat} (hg : g < n1) : W'.rowAt g = W.rowAt g ∧ W'.rowFree g = W.rowFree g := ⟨rowAt_of_heap (h g hg (by omega)), rowFree_of_heap (h g hg (by omega))⟩
theorem box_next (h : Hd) (W : World) (g k : Nat) (hr : W.rowAt g = hda h.ht h.a.l h.b.l h.c.l h.d.l h.w.n h.bi (h.up k).no) (hf : W.rowFree g = true) :
    W.setCell ⟨g, 134, none⟩ (.int .u64 ((h.up (k + 1)).no : Nat)) = W.setRow g (hda h.ht h.a.l h.b.l h.c.l h.d.l h.w.n h.bi (h.up (k + 1)).no) := by
  have h2 := setCell_setRow_free W g (W.rowAt g) hf 134 (.int .u64 ((h.up (k + 1)).no : Nat))
  rw [setRow_same' _ _ hf, hr, set_no _ _ _ _ _ _ _ _ h.a.len h.b.len h.c.len h.d.len] at h2
  exact h2
theorem nonces_in (F : Fence) (n : Nat) (hf : F.fn 51) (hro : F.round = none) (h : Hd) (tries : Int) (w : World) :
    CallsIn F n Try.prog 51 #[.agg (hda h.ht h.a.l h.b.l h.c.l h.d.l h.w.n h.bi h.no), .int .i64 tries] w fun e w' => e = .returned (.func (.func 69) #[] #[.pointer (some ⟨w.heap.size + 1, 0, none⟩), .pointer (some ⟨w.heap.size, 0, none⟩)]) ∧
      w' = (w.alloc (.cells (hda h.ht h.a.l h.b.l h.c.l h.d.l h.w.n h.bi h.no) 29)).alloc (.cells #[.int .i64 tries] 3) := by
  have ha := h.a.len
  have hb := h.b.len
  have hc := h.c.len
  have hd := h.d.len
  refine callsIn_of_wp Try.func51 rfl hf ?_ hro
  simp only [Try.ntmps51, List.size_toArray, List.length_cons, List.length_nil, Nat.reduceAdd, Nat.reduceSub, Array.replicate_succ, Array.replicate_zero, List.push_toArray, List.append_toArray, List.nil_append, List.cons_append]
  gi_wp2
  go_ret
  exact ⟨rfl, rfl⟩
set_option maxHeartbeats 3200000 in
theorem nonces1_in (F : Fence) (n : Nat) (hf : F.fn 69) (hro : F.round = none) (hn : 1 ≤ n) (hh : Hd) (tries : Int) (l Bt g n1 B : Nat) (ht : Bt < n1) (hg : g < n1) (htg : Bt ≠ g)
    (J Jx : List Nat → World → Prop) (hJm : MovesFrom g B J)
    (hY : ∀ pre x W, J pre W → pre.length < tryN tries → YieldAt F (n - 1) Try.prog l #[.agg (hda hh.ht hh.a.l hh.b.l hh.c.l hh.d.l hh.w.n hh.bi (hh.up x).no)] W fun e W' =>
      (e = .returned (.bool true) ∧ J (pre ++ [x]) W' ∧ Lies n1 W W') ∨ (e = .returned (.bool false) ∧ Jx (pre ++ [x]) W'))
    (W : World) (cs : W.cell? ⟨Bt, 0, none⟩ = some (.int .i64 tries)) (hr : W.rowAt g = hda hh.ht hh.a.l hh.b.l hh.c.l hh.d.l hh.w.n hh.bi hh.no) (hfr : W.rowFree g = true) (h0 : J [] W) :
    CallsIn F n Try.prog 69 #[.func (.yield l) #[] #[], .pointer (some ⟨Bt, 0, none⟩), .pointer (some ⟨g, 0, none⟩)] W fun e W' => (∃ v, e = .returned v) ∧
      ((∃ ys, ys = List.range (tryN tries) ∧ J ys W') ∨ (∃ pre, (pre = List.range pre.length ∧ pre.length ≤ tryN tries) ∧ Jx pre W')) := by
  have ha := hh.a.len
  have hb := hh.b.len
  have hc := hh.c.len
  have hd := hh.d.len
  refine callsIn_of_wp Try.func69 rfl hf ?_ hro
  simp only [Try.ntmps69, List.size_toArray, List.length_cons, List.length_nil, Nat.reduceAdd, Nat.reduceSub, Array.replicate_succ, Array.replicate_zero, List.push_toArray, List.append_toArray, List.nil_append, List.cons_append]
  have HY := Lib.hid hY
  have HM := Lib.hid hJm
  clear hY hJm
  gi_wp2
  all_goals
    gi_loopw [6] (fun i wr => ∃ k : Nat, k ≤ tryN tries ∧ i = .int .i64 k ∧ J (List.range k) wr ∧ wr.rowAt g = hda hh.ht hh.a.l hh.b.l hh.c.l hh.d.l hh.w.n hh.bi (hh.up k).no ∧ wr.rowFree g = true) (fun i _ => tryN tries - (intOf i).toNat)
    case atStart => exact ⟨0, by omega, rfl, h0, by rw [show (hh.up 0).no = hh.no from congrArg Hd.no hh.up_zero]; exact hr, hfr⟩
    case round =>
      obtain ⟨k, hk, rfl, hJs, hrk, hfk⟩ := hrel
      by_cases hlt : k < tryN tries
      · have h1 : (k : Int) < tries := by unfold tryN at hlt; omega
        have h2 : (k : Int) < 200 := by unfold tryN at hlt; omega
        obtain ⟨fn, tmps, assign, body, hy, hR⟩ := HY.out _ k wr hJs (by rw [List.length_range]; exact hlt)
        have HR := Lib.hid hR
        have K := Lib.hid hlt
        have RK := Lib.hid (And.intro hrk hfk)
        clear hR hJs hlt hk
        gi_wp2
        refine HR.out.mono ?_
        rintro e W3 (⟨rfl, hJ3, hk3⟩ | ⟨rfl, hJx3⟩)
        · have rX : W3.rowAt g = hda hh.ht hh.a.l hh.b.l hh.c.l hh.d.l hh.w.n hh.bi (hh.up k).no := by rw [(hk3.row hg).1]; exact RK.out.1
          have fX : W3.rowFree g = true := by rw [(hk3.row hg).2]; exact RK.out.2
          have cX : W3.cell? ⟨g, 134, none⟩ = some (.int .u64 ((hh.up k).no : Nat)) := by rw [cell_rowAt, rX]; exact hda_134 _ _ _ _ _ _ _ _ ha hb hc hd
          have zX : W3.frozen? ⟨g, 134, none⟩ = false := by
            have := (there_row fX (o := 134) (n := 1) (by rw [rX, hda_size _ _ _ _ _ _ _ _ ha hb hc hd]; omega) 0 (by omega)).2
            rwa [Nat.add_zero] at this
          have hnx := box_next hh W3 g k rX fX
          obtain ⟨n0, hn0⟩ : ∃ n, (hh.up k).no = n := ⟨_, rfl⟩
          have nb : n0 < 18446744073709551616 := by rw [← hn0]; exact (hh.up k).hn
          have nx : (hh.up (k + 1)).no = (n0 + 1) % 18446744073709551616 := by rw [← hn0, ← Hd.up_next]; rfl
          rw [hn0] at cX rX
          have J3 := Lib.hid hJ3
          have NX := Lib.hid nx
          have HN := Lib.hid hnx
          clear hJ3 hk3 nx hnx hrk hfk hn0
          gi_wp2
          have e : IntKind.u64.wrap ((n0 : Int) + 1) = (((hh.up (k + 1)).no : Nat) : Int) := by rw [IntKind.wrap_u64, NX.out]; omega
          rw [e]
          refine ⟨⟨k + 1, K.out, by go_num, ?_, ?_, ?_⟩, by have := K.out; simp only [intOf]; omega⟩
          · rw [List.range_succ]
            exact HM.out _ _ _ (some g) J3.out (by rw [HN.out]; exact grownBy_setRow _ _ _) (fun r e => .inl (by cases e; rfl))
          · rw [HN.out]; exact rowAt_setRow_free _ _ _ fX
          · rw [HN.out]; exact rowFree_setRow_free _ _ _ fX
        · gi_wp2
          refine bodyPost_ret (results_none rfl _ _ _) rfl ?_
          exact ⟨⟨_, rfl⟩, .inr ⟨_, ⟨by simp [List.range_succ], by simp; exact K.out⟩, hJx3⟩⟩
      · obtain rfl : k = tryN tries := by omega
        have h1 : ¬ (((tryN tries : Nat) : Int) < tries ∧ ((tryN tries : Nat) : Int) < 200) := by unfold tryN; omega
        have HJ := Lib.hid hJs
        clear hk hlt hJs
        obtain ⟨N, hN⟩ : ∃ N, tryN tries = N := ⟨_, rfl⟩
        gi_wp2
        go_end0
        exact ⟨⟨_, rfl⟩, .inl ⟨_, rfl, HJ.out⟩⟩
/-- What it hands out. -/
theorem nonces_moves (F : Fence) (n : Nat) (hf : F.fn 69) (hro : F.round = none) (hn : 1 ≤ n) (h : Hd) (tries : Int) (Bt g n1 : Nat) (ht : Bt < n1) (hg : g < n1) (htg : Bt ≠ g)
    (w : World) (hn1 : n1 ≤ w.heap.size) (cs : w.cell? ⟨Bt, 0, none⟩ = some (.int .i64 tries)) (hr : w.rowAt g = hda h.ht h.a.l h.b.l h.c.l h.d.l h.w.n h.bi h.no) (hfr : w.rowFree g = true) :
    SeqMoves F n Try.prog 69 #[.pointer (some ⟨Bt, 0, none⟩), .pointer (some ⟨g, 0, none⟩)] (fun x : Nat => #[.agg (hda h.ht h.a.l h.b.l h.c.l h.d.l h.w.n h.bi (h.up x).no)]) g (Lies n1)
      (fun ys => ys = List.range (tryN tries)) (fun ys => ys = List.range ys.length ∧ ys.length ≤ tryN tries) (tryN tries) w := fun l J Jx W hW hJ hJx hY h0 => by
  have cs' := (hW.cell (p := ⟨Bt, 0, none⟩) (Nat.lt_of_lt_of_le ht hn1)).trans cs
  have hb : W.heap[g]? = w.heap[g]? := hW.block g (Nat.lt_of_lt_of_le hg hn1)
  exact nonces1_in F n hf hro hn h tries l Bt g n1 W.heap.size ht hg htg J Jx hJ hY W cs' (by rw [rowAt_of_heap hb]; exact hr) (by rw [rowFree_of_heap hb]; exact hfr) h0
end Go.Proofs.Ytommbfgagalckaa
/- head.Mine. -/
namespace Go.Proofs.Ytommbfgagalckaa
open Go.RowKit Go.Shelf
set_option maxRecDepth 100000
set_option linter.unusedVariables false
set_option linter.unusedSimpArgs false
attribute [local go_sem] Oper.semAt_some
/-- Where it stands. -/
structure MnI (h : Hd) (w W : World) (r0 : Nat) : Prop where
  b : W.rowAt r0 = hda h.ht h.a.l h.b.l h.c.l h.d.l h.w.n h.bi h.no
  r : W.rowAt (r0 + 1) = hda 0 id0 id0 id0 id0 0 0 0
  rf : W.rowFree (r0 + 1) = true
  y : W.rowAt (r0 + 1 + 1) = #[.bool false]
  yf : W.rowFree (r0 + 1 + 1) = true
  lt : r0 + 1 + 1 + 1 + 1 < W.heap.size
  gr : Grew w W
theorem MnI.spot {h : Hd} {w W : World} {r0 : Nat} (s : MnI h w W r0) (C : Array Value) : (W.setRow (r0 + 1) C).cell? ⟨r0 + 1 + 1, 0, none⟩ = some (.bool false) ∧ (W.setRow (r0 + 1) C).frozen? ⟨r0 + 1 + 1, 0, none⟩ = false ∧ ((W.setRow (r0 + 1) C).setCell ⟨r0 + 1 + 1, 0, none⟩ (.bool true)) = (W.setRow (r0 + 1) C).setRow (r0 + 1 + 1) #[.bool true] ∧ ((W.setRow (r0 + 1) C).setCell ⟨r0 + 1 + 1, 0, none⟩ (.bool false)) = (W.setRow (r0 + 1) C).setRow (r0 + 1 + 1) #[.bool false] := by
  have e : (W.setRow (r0 + 1) C).heap[r0 + 1 + 1]? = W.heap[r0 + 1 + 1]? := World.heap_setRow_ne _ _ _ _ (by omega)
  have e1 : (W.setRow (r0 + 1) C).rowAt (r0 + 1 + 1) = #[.bool false] := by rw [rowAt_of_heap e, s.y]
  have e2 : (W.setRow (r0 + 1) C).rowFree (r0 + 1 + 1) = true := by rw [rowFree_of_heap e, s.yf]
  have k : ∀ v, (W.setRow (r0 + 1) C).setCell ⟨r0 + 1 + 1, 0, none⟩ v = (W.setRow (r0 + 1) C).setRow (r0 + 1 + 1) #[v] := fun v => by
    have h2 := setCell_setRow_free (W.setRow (r0 + 1) C) (r0 + 1 + 1) ((W.setRow (r0 + 1) C).rowAt (r0 + 1 + 1)) e2 0 v
    rw [setRow_same' _ _ e2, e1] at h2
    exact h2
  refine ⟨by rw [cell_rowAt, e1]; rfl, ?_, k _, k _⟩
  have := (there_row e2 (o := 0) (n := 1) (by rw [e1]; simp) 0 (by omega)).2
  rwa [Nat.add_zero] at this
theorem MnI.move {h : Hd} {w W W' : World} {r0 : Nat} {row : Option Nat} (s : MnI h w W r0) (hw : w.heap.size ≤ r0) (g : W.grownBy W' row) (hr : ∀ r, row = some r → r0 + 1 + 1 < r) : MnI h w W' r0 := by
  have l := s.lt
  have e : ∀ j, j ≤ r0 + 1 + 1 → W'.heap[j]? = W.heap[j]? := fun j hj => g.block j (by omega) (fun e => by have := hr j e.symm; omega)
  exact ⟨by rw [rowAt_of_heap (e _ (by omega)), s.b], by rw [rowAt_of_heap (e _ (by omega)), s.r], by rw [rowFree_of_heap (e _ (by omega)), s.rf], by rw [rowAt_of_heap (e _ (by omega)), s.y], by rw [rowFree_of_heap (e _ (by omega)), s.yf], Nat.lt_of_lt_of_le l g.size, s.gr.grown g (fun j hj => by have := hr j hj; omega)⟩
theorem MnI.grew {h : Hd} {w W W' : World} {r0 : Nat} (s : MnI h w W r0) (g : Grew W W') : MnI h w W' r0 := by
  have l := s.lt
  exact ⟨by rw [rowAt_of_heap (g.heap (by omega)), s.b], by rw [rowAt_of_heap (g.heap (by omega)), s.r], by rw [rowFree_of_heap (g.heap (by omega)), s.rf], by rw [rowAt_of_heap (g.heap (by omega)), s.y], by rw [rowFree_of_heap (g.heap (by omega)), s.yf], Nat.lt_of_lt_of_le l g.size, s.gr.trans g⟩
/-- Where it stands once one is found. -/
structure MnX (h : Hd) (w W : World) (r0 k : Nat) : Prop where
  r : W.rowAt (r0 + 1) = hda h.ht h.a.l h.b.l h.c.l h.d.l h.w.n h.bi (h.up k).no
  y : W.rowAt (r0 + 1 + 1) = #[.bool true]
  lt : r0 + 1 + 1 + 1 + 1 < W.heap.size
  gr : Grew w W
theorem MnX.move {h : Hd} {w W W' : World} {r0 k : Nat} {row : Option Nat} (s : MnX h w W r0 k) (hw : w.heap.size ≤ r0) (g : W.grownBy W' row) (hr : ∀ r, row = some r → r0 + 1 + 1 < r) : MnX h w W' r0 k := by
  have l := s.lt
  have e : ∀ j, j ≤ r0 + 1 + 1 → W'.heap[j]? = W.heap[j]? := fun j hj => g.block j (by omega) (fun e => by have := hr j e.symm; omega)
  exact ⟨by rw [rowAt_of_heap (e _ (by omega)), s.r], by rw [rowAt_of_heap (e _ (by omega)), s.y], Nat.lt_of_lt_of_le l g.size, s.gr.grown g (fun j hj => by have := hr j hj; omega)⟩
set_option maxHeartbeats 4000000 in
theorem hmine_in (F : Fence) (n : Nat) (hF : F = .wide) (hn : 3 ≤ n) (hh : Hd) (tries : Int) (w : World) :
    CallsIn F n Try.prog 23 #[.agg (hda hh.ht hh.a.l hh.b.l hh.c.l hh.d.l hh.w.n hh.bi hh.no), .int .i64 tries] w fun e w' => e = .returned (.tuple #[(hmine hh tries).1.v, .bool (hmine hh tries).2]) ∧ Grew w w' := by
  have ha := hh.a.len
  have hb := hh.b.len
  have hc := hh.c.len
  have hd := hh.d.len
  have h1 : 1 ≤ n := by omega
  subst hF
  refine callsIn_of_wp_marks Try.func23 rfl trivial ?_ rfl
  simp only [Try.ntmps23, List.size_toArray, List.length_cons, List.length_nil, Nat.reduceAdd, Nat.reduceSub, Array.replicate_succ, Array.replicate_zero, List.push_toArray, List.append_toArray, List.nil_append, List.cons_append]
  gi_wp2
  refine ⟨trivial, (nonces_in .wide (n - 1) trivial rfl hh tries _).mono ?_⟩
  rintro e w3 ⟨rfl, hw3⟩
  obtain ⟨r0, hr0⟩ : ∃ r0, w.heap.size = r0 := ⟨_, rfl⟩
  have hsz : w3.heap.size = r0 + 1 + 1 + 1 + 1 + 1 := by rw [hw3, ← hr0]; simp
  have hI0 : MnI hh w w3 r0 := by
    rw [hw3, ← hr0]
    exact ⟨by simp [go_sem], by simp [go_sem], by simp [go_sem], by simp [go_sem], by simp [go_sem], by simp, (by repeat (first | with_reducible exact Grew.refl _ | with_reducible apply Grew.alloc | with_reducible apply Grew.grow | with_reducible apply Grew.drew | with_reducible apply Grew.drewN))⟩
  have p1 : w3.rowAt (r0 + 1 + 1 + 1) = hda hh.ht hh.a.l hh.b.l hh.c.l hh.d.l hh.w.n hh.bi hh.no := by rw [hw3, ← hr0]; simp [go_sem]
  have p2 : w3.rowFree (r0 + 1 + 1 + 1) = true := by rw [hw3, ← hr0]; simp [go_sem]
  have p3 : w3.cell? ⟨r0 + 1 + 1 + 1 + 1, 0, none⟩ = some (.int .i64 tries) := by rw [hw3, ← hr0]; simp [go_sem]
  have bs : ((((w.alloc (Obj.cells (hda hh.ht hh.a.l hh.b.l hh.c.l hh.d.l hh.w.n hh.bi hh.no) 29)).alloc (Obj.cells (hda 0 id0 id0 id0 id0 0 0 0) 29)).alloc (Obj.cells #[.bool false] 4)).heap.size) = r0 + 1 + 1 + 1 := by rw [← hr0]; simp
  rw [bs, hr0]
  have HR0 := Lib.hid hr0
  have H0 := Lib.hid hI0
  clear hw3 hr0 bs hI0
  have hwr : w.heap.size ≤ r0 := by have := HR0.out; omega
  have HWR := Lib.hid hwr
  clear hwr
  gi_wp2
  refine wpIn_rangeFunc_moves rfl h1 (gf := 69) (lb := #[.pointer (some ⟨r0 + 1 + 1 + 1 + 1, 0, none⟩), .pointer (some ⟨r0 + 1 + 1 + 1, 0, none⟩)]) rfl trivial (enters_of Try.func69 (by kernel_rfl) rfl)
    (nonces_moves .wide (n - 1) trivial rfl (by omega) hh tries (r0 + 1 + 1 + 1 + 1) (r0 + 1 + 1 + 1) w3.heap.size (by omega) (by omega) (by omega) w3 (Nat.le_refl _) p3 p1 p2) (by omega)
    (fun h k => h.trans k) (fun W l o o' hl h _ _ k hk hne => World.putObj_heap_other (by omega)) (Below.refl _ _) (fun _ => rfl)
    (fun pre W => MnI hh w W r0 ∧ ∀ j ∈ pre, hmay (hh.up j) = false) (fun c pre W => c = .ret ∧ ∃ ini k, pre = ini ++ [k] ∧ (∀ j ∈ ini, hmay (hh.up j) = false) ∧ hmay (hh.up k) = true ∧ MnX hh w W r0 k)
    (fun s W W' row hs hg hr => ⟨hs.1.move HWR.out hg (fun r e => by rcases hr r e with h | h <;> omega), hs.2⟩)
    (fun c s W W' row hs hg hr => by
      obtain ⟨h0, ini, k, h1, h2, h3, h4⟩ := hs
      exact ⟨h0, ini, k, h1, h2, h3, h4.move HWR.out hg (fun r e => by rcases hr r e with h | h <;> omega)⟩)
    ⟨H0.out, by simp⟩
    (fun _ x a' W => ∃ g5, a' = { tmps := #[.agg (hda hh.ht hh.a.l hh.b.l hh.c.l hh.d.l hh.w.n hh.bi hh.no), .int .i64 tries, .pointer (some ⟨r0, 0, none⟩), undef, .pointer (some ⟨r0 + 1, 0, none⟩), .pointer (some ⟨r0 + 1 + 1, 0, none⟩), .pointer (some ⟨g5, 0, none⟩), .agg (hda hh.ht hh.a.l hh.b.l hh.c.l hh.d.l hh.w.n hh.bi hh.no), .int .i64 tries, .func (.func 69) #[] #[.pointer (some ⟨r0 + 1 + 1 + 1 + 1, 0, none⟩), .pointer (some ⟨r0 + 1 + 1 + 1, 0, none⟩)], .agg (hda hh.ht hh.a.l hh.b.l hh.c.l hh.d.l hh.w.n hh.bi (hh.up x).no), undef, undef, undef, undef], defers := [] } ∧ W.heap[g5]? = some (.cells (hda hh.ht hh.a.l hh.b.l hh.c.l hh.d.l hh.w.n hh.bi (hh.up x).no) 29 (0, 0)) ∧ w3.heap.size ≤ g5) ?own ?assign ?body ?done ?stop
  case own =>
    rintro pre z a' _ W W' row ⟨g5, ha, h5, hb5⟩ hg hr
    refine ⟨g5, ha, (hg.block g5 (Array.getElem?_eq_some_iff.1 h5).1 (fun e => ?_)).trans h5, hb5⟩
    obtain ⟨_, ob, hob, hoc⟩ := hr g5 e.symm
    rw [h5] at hob
    cases hob
    cases hoc
  case assign =>
    intro l pre z W K hI hK
    have hsW : w3.heap.size ≤ W.heap.size := by have := hI.1.lt; omega
    have HI := Lib.hid hI
    clear hI p1 p2 p3
    gi_wp2
    refine hK _ _ ?_ ?_ ?_ ⟨_, rfl, heap_alloc_new W _, hsW⟩
    · exact ⟨by simp, fun k o hk h0 ho => (Below.heap_alloc _ _ _ (Array.getElem?_eq_some_iff.1 h0).1).trans h0⟩
    · exact fun k hk hne => Below.heap_alloc _ _ _ (by omega)
    · exact ⟨HI.out.1.grew (by repeat (first | with_reducible exact Grew.refl _ | with_reducible apply Grew.alloc | with_reducible apply Grew.grow | with_reducible apply Grew.drew | with_reducible apply Grew.drewN)), HI.out.2⟩
  case body =>
    rintro lb pre z a' W hlb hlr hI ⟨g5, rfl, h5, hg5⟩ hlen
    have i5 : W.rowAt g5 = hda hh.ht hh.a.l hh.b.l hh.c.l hh.d.l hh.w.n hh.bi (hh.up z).no := by unfold World.rowAt; rw [h5]
    have HI := Lib.hid hI
    have l5 : g5 < W.heap.size := (Array.getElem?_eq_some_iff.1 h5).1
    have HG := Lib.hid hg5
    clear hI p1 p2 p3 h5 hg5 hlr hlen
    gi_wp2
    refine ⟨trivial, fun _ => by omega, (CallsIn.inRound lb (callsIn_wide.2 (hmay_w (hh.up z) W))).mono ?_⟩
    rintro e W' ⟨rfl, hg'⟩
    have hi := HI.out.1.grew hg'
    have k5 : W'.rowAt g5 = hda hh.ht hh.a.l hh.b.l hh.c.l hh.d.l hh.w.n hh.bi (hh.up z).no := by rw [rowAt_of_heap (hg'.heap l5)]; exact i5
    have r1 := hi.r
    have r2 := hi.rf
    have y1 := hi.y
    have y2 := hi.yf
    have sp := hi.spot
    have s1 := fun C => (sp C).1
    have s2 := fun C => (sp C).2.1
    have SP := Lib.hid sp
    clear sp
    have HJ := Lib.hid hi
    have HG' := Lib.hid hg'
    cases hm : hmay (hh.up z)
    · have HM := Lib.hid hm
      clear hg' hi hm i5
      gi_wp2
      refine ⟨⟨HG'.out.size, fun k o hk h0 ho => (HG'.out.heap (Array.getElem?_eq_some_iff.1 h0).1).trans h0⟩, fun k hk hne => HG'.out.heap (by have := HI.out.1.lt; omega), HJ.out, fun j hj => ?_⟩
      rcases List.mem_append.1 hj with h | h
      · exact HI.out.2 j h
      · rw [List.mem_singleton.1 h]; exact HM.out
    · have HM := Lib.hid hm
      clear hg' hi hm i5
      gi_wp2
      rw [(SP.out _).2.2.1]
      have e : ∀ k, k ≠ r0 + 1 → k ≠ r0 + 1 + 1 → ((W'.setRow (r0 + 1) (hda hh.ht hh.a.l hh.b.l hh.c.l hh.d.l hh.w.n hh.bi (hh.up z).no)).setRow (r0 + 1 + 1) #[.bool true]).heap[k]? = W'.heap[k]? := fun k h1 h2 =>
        (World.heap_setRow_ne _ _ _ _ (by omega)).trans (World.heap_setRow_ne _ _ _ _ (by omega))
      have q2 : (W'.setRow (r0 + 1) (hda hh.ht hh.a.l hh.b.l hh.c.l hh.d.l hh.w.n hh.bi (hh.up z).no)).rowFree (r0 + 1 + 1) = true := by rw [rowFree_of_heap (World.heap_setRow_ne _ _ _ _ (by omega))]; exact y2
      refine ⟨⟨by rw [setRow_size, setRow_size]; exact HG'.out.size, fun k o hk h0 ho => ?_⟩, rfl, pre, z, rfl, HI.out.2, HM.out, ?_, ?_, ?_, ?_⟩
      · rw [e k (by omega) (by omega)]
        exact (HG'.out.heap (Array.getElem?_eq_some_iff.1 h0).1).trans h0
      · rw [rowAt_of_heap (World.heap_setRow_ne _ _ _ _ (by omega)), rowAt_setRow_free _ _ _ r2]
      · rw [rowAt_setRow_free _ _ _ q2]
      · rw [setRow_size, setRow_size]; have := HJ.out.lt; omega
      · exact (HJ.out.gr.grown (grownBy_setRow _ _ _) (fun j hj => by cases hj; have := HWR.out; omega)).grown (grownBy_setRow _ _ _) (fun j hj => by cases hj; have := HWR.out; omega)
  case done =>
    rintro D ys W hD hS hI HDD
    have HS := Lib.hid hS
    have b1 := hI.1.b
    have r1 := hI.1.r
    have r2 := hI.1.rf
    have y1 := hI.1.y
    have y2 := hI.1.yf
    have sp := hI.1.spot
    have s1 := fun C => (sp C).1
    have s2 := fun C => (sp C).2.1
    have SP := Lib.hid sp
    clear sp
    have HI := Lib.hid hI
    have HDD' := Lib.hid HDD
    clear p1 p2 p3 hI hS HDD
    gi_wp2
    rw [(SP.out _).2.2.2]
    have hDW : D < W.heap.size := (Array.getElem?_eq_some_iff.1 HDD'.out).1
    have e : ∀ k, k ≠ r0 + 1 → k ≠ r0 + 1 + 1 → ((W.setRow (r0 + 1) (hda hh.ht hh.a.l hh.b.l hh.c.l hh.d.l hh.w.n hh.bi hh.no)).setRow (r0 + 1 + 1) #[.bool false]).heap[k]? = W.heap[k]? := fun k h1 h2 =>
      (World.heap_setRow_ne _ _ _ _ (by omega)).trans (World.heap_setRow_ne _ _ _ _ (by omega))
    have q2 : (W.setRow (r0 + 1) (hda hh.ht hh.a.l hh.b.l hh.c.l hh.d.l hh.w.n hh.bi hh.no)).rowFree (r0 + 1 + 1) = true := by rw [rowFree_of_heap (World.heap_setRow_ne _ _ _ _ (by omega))]; exact y2
    obtain ⟨U, hU⟩ : ∃ U, (W.setRow (r0 + 1) (hda hh.ht hh.a.l hh.b.l hh.c.l hh.d.l hh.w.n hh.bi hh.no)).setRow (r0 + 1 + 1) #[.bool false] = U := ⟨_, rfl⟩
    have u1 : U.rowAt (r0 + 1) = hda hh.ht hh.a.l hh.b.l hh.c.l hh.d.l hh.w.n hh.bi hh.no := by rw [← hU, rowAt_of_heap (World.heap_setRow_ne _ _ _ _ (by omega)), rowAt_setRow_free _ _ _ r2]
    have u2 : U.rowAt (r0 + 1 + 1) = #[.bool false] := by rw [← hU, rowAt_setRow_free _ _ _ q2]
    have u3 : U.heap[D]? = some (.deferred (some [])) := by rw [← hU, e D (by omega) (by omega)]; exact HDD'.out
    have u4 : Grew w U := by
      rw [← hU]
      exact (HI.out.1.gr.grown (grownBy_setRow _ _ _) (fun j hj => by cases hj; have := HWR.out; omega)).grown (grownBy_setRow _ _ _) (fun j hj => by cases hj; have := HWR.out; omega)
    rw [hU]
    have hm : hmine hh tries = (hh, false) := by
      unfold hmine
      rw [firstM_not (fun j _ hj => HI.out.2 j (by rw [HS.out]; exact List.mem_range.2 (by omega)))]
    rw [hm]
    refine ⟨by simp, .inl ⟨_, _, rfl, run_takeDeferred u3, ?_⟩⟩
    refine ⟨_, head_cell_result (g := r0 + 1) (g2 := r0 + 1 + 1) Try.results23 _ rfl rfl (by rw [rowAt_of_heap (World.putObj_heap_other (by omega)), u1]) (hda_size _ _ _ _ _ _ _ _ ha hb hc hd) (x := false) (by rw [cell_rowAt, rowAt_of_heap (World.putObj_heap_other (by omega)), u2]; rfl), rfl, ?_⟩
    exact u4.grown (grownBy_putObj' _ D (.deferred none)) (fun k e => by cases e; have := HWR.out; omega)
  case stop =>
    rintro D c pre W hD hSp ⟨rfl, hX⟩ HDD
    have HX := Lib.hid hX
    have HP := Lib.hid hSp
    have HDD' := Lib.hid HDD
    clear hX hSp HDD p1 p2 p3
    gi_wp2
    obtain ⟨ini, k, rfl, h2, h3, hx⟩ := HX.out
    have hk : ini = List.range ini.length ∧ k = ini.length ∧ ini.length < tryN tries := by
      obtain ⟨p1, p2⟩ := HP.out
      rw [List.length_append, List.length_singleton, List.range_succ] at p1
      obtain ⟨a, b⟩ := List.append_inj' p1 rfl
      rw [List.length_append, List.length_singleton] at p2
      exact ⟨a, by simpa using b, p2⟩
    have hm : hmine hh tries = (hh.up k, true) := by
      unfold hmine
      rw [firstM_is h3 (Nat.zero_le _) (by rw [hk.2.1]; have := hk.2.2; omega) (fun j _ hj => h2 j (by rw [hk.1]; exact List.mem_range.2 (by have := hk.2.1; omega)))]
    rw [hm]
    refine ⟨by simp, .inl ⟨_, _, rfl, run_takeDeferred HDD'.out, ?_⟩⟩
    refine ⟨_, head_cell_result (g := r0 + 1) (g2 := r0 + 1 + 1) Try.results23 _ rfl rfl (by rw [rowAt_of_heap (World.putObj_heap_other (by omega)), hx.r]; rfl) (hda_size _ _ _ _ _ _ _ _ ha hb hc hd) (x := true) (by rw [cell_rowAt, rowAt_of_heap (World.putObj_heap_other (by omega)), hx.y]; rfl), rfl, ?_⟩
    exact hx.gr.grown (grownBy_putObj' _ D (.deferred none)) (fun k e => by cases e; have := HWR.out; omega)
theorem hmine_w (h : Hd) (tries : Int) (w : World) :
    Calls Try.prog 23 #[.agg (hda h.ht h.a.l h.b.l h.c.l h.d.l h.w.n h.bi h.no), .int .i64 tries] w fun e w' => e = .returned (.tuple #[(hmine h tries).1.v, .bool (hmine h tries).2]) ∧ Grew w w' :=
  (callsIn_wide (n := 3)).1 (hmine_in .wide 3 rfl (Nat.le_refl _) h tries w)
end Go.Proofs.Ytommbfgagalckaa
/- The chapter's example, in plain Lean. -/
namespace Go.Proofs.Ytommbfgagalckaa
set_option linter.unusedVariables false
set_option linter.unusedSimpArgs false
open Go.RowKit
set_option maxRecDepth 100000
def hd7 : Hd := ⟨0, Idb.zero, Idb.zero, Idb.zero, Idb.zero, Wd.zero, 545259519, 7, by decide, by decide, by decide, by decide⟩
theorem easy_ok : tgOk 545259519 = true := by decide
theorem easy_n : (tg 545259519).n = 8388607 * 2 ^ 232 := by
  unfold tg
  rw [if_pos easy_ok, show (545259519 : Nat) / 16777216 = 32 by decide, show (545259519 : Nat) % 16777216 = 8388607 by decide, show (8 : Int) * (((32 : Nat) : Int) - 3) = ((232 : Nat) : Int) by decide, Wd.up_n, of_val (by decide), Nat.shiftLeft_eq]
  decide +kernel
theorem easy_wk : (wk (tg 545259519)).n = 2 := by
  unfold wk
  rw [Wd.of_n, easy_n]
  decide +kernel
theorem hok7 : hok hd7 = true := by decide
theorem hlev7 : hlev hd7 = 31 := by
  unfold hlev
  rw [if_pos ⟨easy_ok, hok7⟩, if_pos (show hd7.ht = 0 from rfl)]
theorem hmay7 : hmay hd7 = true := by unfold hmay; rw [hlev7]; decide
theorem hwork7 : (hwork hd7).n = 2 := by
  unfold hwork
  rw [show hd7.bi = 545259519 from rfl, if_pos easy_ok]
  exact easy_wk
theorem hid7 : ieq (hid hd7).l id0 = false := by decide +kernel
theorem hput7 : (bys (hputL hd7))[175]? = some (.int .u8 7) := by
  have h : (hputL hd7)[175]? = some 7 := by decide +kernel
  unfold bys
  rw [List.getElem?_map, h]
  rfl
theorem hrd7 : hrd (hpL hd7) = hd7 ∧ (hread (hpL hd7)).isSome = true := by
  rw [hpL_ok hok7]
  unfold hrd
  rw [hread_put hd7 hok7]
  exact ⟨rfl, rfl⟩
end Go.Proofs.Ytommbfgagalckaa
/- The chapter's example holds. -/
namespace Go.Proofs.Ytommbfgagalckaa
open Go.RowKit
set_option maxRecDepth 100000
set_option linter.unusedVariables false
set_option linter.unusedSimpArgs false
@[go_sem] theorem run_hdBuild7 (w : World) : (hdBuild #[(6, .int .u32 545259519), (7, .int .u64 7)]).run Try.prog w = .ok (.value (.agg (hda 0 id0 id0 id0 id0 0 545259519 7))) w := run_hdBuild2 545259519 7 w
set_option maxHeartbeats 6400000 in
theorem awake_w (w : World) : Calls Try.prog 9 #[] w fun e w' => e = .returned (.bool true) ∧ Grew w w' := by
  have hz := id0_len
  go_enter Try.func9, Try.ntmps9
  go_wp2_with (go_at_call 10; refine stop_of ?_)
  unfold Stop
  refine Calls_abs ?_
  intro X hX
  have gX : Grew w X := by rw [hX]; exact (by repeat (first | with_reducible exact Grew.refl _ | with_reducible apply Grew.alloc | with_reducible apply Grew.grow | with_reducible apply Grew.drew | with_reducible apply Grew.drewN))
  have rX : X.rowAt w.heap.size = hda hd7.ht hd7.a.l hd7.b.l hd7.c.l hd7.d.l hd7.w.n hd7.bi hd7.no := by rw [hX]; simp [go_sem]; rfl
  have lX : w.heap.size < X.heap.size := by rw [hX]; simp
  refine (hput_w hd7 X).mono ?_
  rintro e W1 ⟨v, rfl, hs, hg⟩
  have hkk := hok7
  have hmy := hmay7
  have hlv := hlev7
  have hwk := hwork7
  have hi := hid7
  have hln : (hpL hd7).length = 176 := by rw [hpL_ok hok7]; exact hputL_len _
  have h175 : (bys (hpL hd7))[175]? = some (.int .u8 7) := by rw [hpL_ok hok7]; exact hput7
  obtain ⟨hr1, hr2⟩ := hrd7
  have hlt := hpL_lt hd7
  have g1 := gX.trans hg
  have r1 : W1.rowAt w.heap.size = hda hd7.ht hd7.a.l hd7.b.l hd7.c.l hd7.d.l hd7.w.n hd7.bi hd7.no := by rw [rowAt_of_heap (hg.heap lX)]; exact rX
  have l1 : w.heap.size < W1.heap.size := Nat.lt_of_lt_of_le lX hg.size
  obtain ⟨L, hL⟩ : ∃ L, hpL hd7 = L := ⟨_, rfl⟩
  rw [hL] at hs hr1 hr2 hln h175 hlt
  obtain ⟨H, hH⟩ : ∃ H, hd7 = H := ⟨_, rfl⟩
  rw [hH] at hkk hmy hlv hwk hi hr1 r1
  rw [hok7]
  obtain ⟨p, c, rfl, hc, hsh⟩ := hs
  have HS := Lib.hid (show ShowsC W1 (.slice p L.length c) L from ⟨p, c, rfl, hc, hsh⟩)
  have cell : ∃ b o, p = some ⟨b, o, none⟩ ∧ b < W1.heap.size ∧ W1.cell? ⟨b, o + 175, none⟩ = some (.int .u8 7) := by
    rcases hsh with ⟨b, o, c', he, hb, hat⟩ | ⟨p', c', he, h0⟩
    · simp only [Value.slice.injEq] at he
      exact ⟨b, o, he.1, hb, hat 175 _ h175⟩
    · have := congrArg List.length h0
      rw [bys_len, hln] at this
      simp at this
  obtain ⟨b, o, rfl, hb, hcell⟩ := cell
  have hc176 : (176 : Int) ≤ c := by omega
  rw [hln]
  rw [hln] at HS
  have G1 := Lib.hid g1
  have ha := H.a.len
  have hbl := H.b.len
  have hcl := H.c.len
  have hdl := H.d.len
  have LN := Lib.hid (And.intro hln hlt)
  have R := Lib.hid (And.intro hr1 hr2)
  clear hX gX rX lX hg g1 hL hH hsh h175 hc hln hlt hr1 hr2
  go_wp2_with (go_at_call 11; refine stop_of ?_)
  unfold Stop
  refine (hread_w L _ W1 HS.out LN.out.2 (by rw [LN.out.1]; omega)).mono ?_
  rintro e W2 ⟨rfl, hg⟩
  rw [R.out.1, R.out.2]
  have r2 : W2.rowAt w.heap.size = hda H.ht H.a.l H.b.l H.c.l H.d.l H.w.n H.bi H.no := by rw [rowAt_of_heap (hg.heap l1)]; exact r1
  have l2 : w.heap.size < W2.heap.size := Nat.lt_of_lt_of_le l1 hg.size
  have cell2 := hg.cell hcell
  have lb2 : b < W2.heap.size := Nat.lt_of_lt_of_le hb hg.size
  have G2 := Lib.hid (G1.out.trans hg)
  clear HS R hcell hb l1 r1 hg G1
  unfold Hd.v
  have wq : weq 2 2 = true := Wd.eq_of rfl
  have heq : Hd.eq H H = true := (Hd.eq_iff H H).2 rfl
  have HMY := Lib.hid hmy
  have HLV := Lib.hid hlv
  have HWK := Lib.hid hwk
  clear hmy hlv hwk hkk
  go_wp2_with (go_at_call 16; refine stop_of ?_)
  unfold Stop
  refine Calls_abs ?_
  intro Y hY
  have gY : Grew W2 Y := by rw [hY]; exact (by repeat (first | with_reducible exact Grew.refl _ | with_reducible apply Grew.alloc | with_reducible apply Grew.grow | with_reducible apply Grew.drew | with_reducible apply Grew.drewN))
  have y1 : Y.rowAt w.heap.size = hda H.ht H.a.l H.b.l H.c.l H.d.l H.w.n H.bi H.no := by rw [rowAt_of_heap (gY.heap l2)]; exact r2
  have z1 : w.heap.size < Y.heap.size := Nat.lt_of_lt_of_le l2 gY.size
  have GY := Lib.hid (G2.out.trans gY)
  clear hY gY r2 l2 cell2 lb2 G2
  refine (hmay_w H Y).mono ?_
  rintro e W3 ⟨rfl, δ, rfl⟩
  rw [HMY.out]
  have C2 := Lib.hid (fun W => hlev_w H W)
  have C3 := Lib.hid (fun W => hwork_w H W)
  have C4 := Lib.hid (fun W => hid_w H W)
  have C5 := Lib.hid (fun W => wof_w 2 (by decide) W)
  rw [HLV.out] at C2
  rw [HWK.out] at C3
  go_wp2_with (first | (go_at_call 15; refine (C2.out _).mono ?_; rintro e w' ⟨rfl, δ1, rfl⟩) | (go_at_call 17; refine (C3.out _).mono ?_; rintro e w' ⟨rfl, δ2, rfl⟩) | (go_at_call 19; refine (C5.out _).mono ?_; rintro e w' ⟨rfl, δ3, rfl⟩) | (go_at_call 12; refine (C4.out _).mono ?_; rintro e w' ⟨rfl, δ4, rfl⟩))
  go_ret
  exact ⟨rfl, GY.out.trans (by repeat (first | with_reducible exact Grew.refl _ | with_reducible apply Grew.alloc | with_reducible apply Grew.grow | with_reducible apply Grew.drew | with_reducible apply Grew.drewN))⟩
end Go.Proofs.Ytommbfgagalckaa
/- A head in a block of its own: what is read of it. -/
namespace Go.Proofs.Ytommbfgagalckaa
set_option linter.unusedVariables false
set_option linter.unusedSimpArgs false
open Go.RowKit
set_option maxRecDepth 100000
structure HBox (h : Hd) (W : World) (g : Nat) : Prop where
  r : W.rowAt g = hda h.ht h.a.l h.b.l h.c.l h.d.l h.w.n h.bi h.no
  lt : g < W.heap.size
theorem HBox.grew {h : Hd} {W W' : World} {g : Nat} (b : HBox h W g) (hg : Grew W W') : HBox h W' g := ⟨by rw [rowAt_of_heap (hg.heap b.lt)]; exact b.r, Nat.lt_of_lt_of_le b.lt hg.size⟩
theorem HBox.c0 {h : Hd} {W : World} {g : Nat} (b : HBox h W g) : W.cell? ⟨g, 0, none⟩ = some (.int .i64 h.ht) := by rw [cell_rowAt, b.r]; exact hda_0 _ _ _ _ _ _ _ _ h.a.len h.b.len h.c.len h.d.len
theorem HBox.c133 {h : Hd} {W : World} {g : Nat} (b : HBox h W g) : W.cell? ⟨g, 133, none⟩ = some (.int .u32 (h.bi : Nat)) := by rw [cell_rowAt, b.r]; exact hda_133 _ _ _ _ _ _ _ _ h.a.len h.b.len h.c.len h.d.len
theorem HBox.c134 {h : Hd} {W : World} {g : Nat} (b : HBox h W g) : W.cell? ⟨g, 134, none⟩ = some (.int .u64 (h.no : Nat)) := by rw [cell_rowAt, b.r]; exact hda_134 _ _ _ _ _ _ _ _ h.a.len h.b.len h.c.len h.d.len
theorem HBox.made (h : Hd) (W : World) : HBox h (W.alloc (.cells (hda h.ht h.a.l h.b.l h.c.l h.d.l h.w.n h.bi h.no) 29)) W.heap.size := ⟨by simp [go_sem], by simp⟩
end Go.Proofs.Ytommbfgagalckaa
