/- What the statements of this chapter rest on, part 3. Conditions: none. -/
import Derived.Carry
import Derived.ChangeSlices
import Derived.Deep.Matrix
import Derived.Deep.MidRow
import Derived.Deep.Slices
import Derived.Test.YtommbfgagalckaaM2
/- sha.Sum. -/
namespace Go.Proofs.Ytommbfgagalckaa
set_option linter.unusedVariables false
set_option linter.unusedSimpArgs false
open Go.RowKit Go.Shelf
set_option maxRecDepth 100000
attribute [local go_sem] Oper.semAt_some
theorem pad_o (l : List Nat) (v : Value) (w : World) (hl : l.length ≤ 1073741824) (hv : Shows w v (bys l)) :
    Calls Try.prog 37 #[v] w fun e w' => ∃ b cap K, e = .returned (.slice (some ⟨b, 0, none⟩) (64 * K) cap) ∧ 64 * K = (pad l).length ∧ 64 * K ≤ cap ∧ cap ≤ maxLen ∧ w.heap.size ≤ b ∧ b < w'.heap.size ∧
      (∀ j, j < 64 * K → w'.cell? ⟨b, 0 + j, none⟩ = some (.int .u8 (byteAt (pad l) j : Nat))) ∧ Grew w w' := by
  refine (pad_w' l v w hl hv).mono ?_
  rintro e w' ⟨v', rfl, ho, hg⟩
  obtain ⟨K, hK⟩ : ∃ K, (pad l).length = 64 * K := ⟨(pad l).length / 64, by have := pad_mod l; omega⟩
  have hp := pad_len l
  rcases ho.2 with ⟨rfl, h0⟩ | ⟨b, cap, cur, rfl, hb, hh, hn, hm, hs, ht⟩
  · rw [bys_len] at h0; omega
  · rw [bys_len, hK] at ho hn ⊢
    refine ⟨b, cap, K, rfl, rfl, hn, hm, hb, (Array.getElem?_eq_some_iff.1 hh).1, fun j hj => ?_, hg⟩
    rw [Nat.zero_add, own_cell ho j (by rw [bys_len]; omega)]
    simp [bys, byteAt_eq _ j (show j < (pad l).length by omega)]
theorem own_grew {β : Type} (B : Nat) (f : β → World) (hB : ∀ s, (f s).heap.size = B) : OwnFrom B (fun s W => Grew (f s) W) := fun s W W' row hs hg hr => by
  have hb : Below (f s).heap.size (f s) W := hs.below
  exact Grew.of_below (hb.grown hg hb.size (fun k e => by rw [hB]; exact (hr k e).1))
theorem heap_setRow_other (w : World) (g : Nat) (cs : Array Value) (k : Nat) (h : k ≠ g) : (w.setRow g cs).heap[k]? = w.heap[k]? := by
  unfold World.setRow
  simp [Array.getElem?_modify, Ne.symm h]
/-- One part goes in. -/
theorem part_step (A W W' : World) (g B : Nat) (v v' : Array Value) (hg : g < A.heap.size) (hB : B = A.heap.size) (hf : A.rowFree g = true) (h : Grew (A.setRow g v) W) (h' : Grew (W.setRow g v') W') :
    KeepsFrom B W W' ∧ KeptBut g B W W' ∧ Grew (A.setRow g v') W' := by
  subst hB
  have hs : (A.setRow g v).heap.size = A.heap.size := setRow_size _ _ _
  have hW : g < W.heap.size := Nat.lt_of_lt_of_le hg (hs ▸ h.size)
  have key : ∀ k, k < W.heap.size → k ≠ g → W'.heap[k]? = W.heap[k]? := fun k hk hne => by
    rw [h'.heap (by rw [setRow_size]; exact hk), heap_setRow_other _ _ _ _ hne]
  refine ⟨⟨by have := h'.size; rw [setRow_size] at this; exact this, fun k o hk h0 ho => ?_⟩, fun k hk hne => key k (Nat.lt_of_lt_of_le hk (hs ▸ h.size)) hne, ?_⟩
  · rw [key k (Array.getElem?_eq_some_iff.1 h0).1 (by omega)]; exact h0
  · have h2 := Grew.setRow_old h g v' (by rw [hs]; exact hg)
    rw [setRow_setRow] at h2
    exact h2.trans h'
set_option maxRecDepth 100000 in
set_option maxHeartbeats 4000000 in
theorem sum_in (F : Fence) (n : Nat) (l : List Nat) (hF : F = .wide) (hn : 3 ≤ n) (v : Value) (w : World) (hl : l.length ≤ 1073741824) (hb : ∀ c ∈ l, c < 256) (hv : Shows w v (bys l)) :
    CallsIn F n Try.prog 13 #[v] w fun e w' => e = .returned (.agg (iv (sum l))) ∧ Grew w w' := by
  have h1 : 1 ≤ n := by omega
  have HV := Lib.hid hv
  clear hv
  refine callsIn_of_wp_marks Try.func13 rfl (by subst hF; trivial) ?_ (by subst hF; rfl)
  simp only [Try.ntmps13, List.size_toArray, List.length_cons, List.length_nil, Nat.reduceAdd, Nat.reduceSub, Array.replicate_succ, Array.replicate_zero, List.push_toArray, List.append_toArray, List.nil_append, List.cons_append]
  gi_wp2
  obtain ⟨w1, hw1⟩ : ∃ w1, ((w.alloc (Obj.cells (iv id0) 23)).alloc (Obj.cells (uv words0) 64)).alloc (Obj.cells #[.pointer (some ⟨w.heap.size + 1, 0, none⟩)] 62) = w1 := ⟨_, rfl⟩
  have hgw : Grew w w1 := by rw [← hw1]; exact (by repeat (first | with_reducible exact Grew.refl _ | with_reducible apply Grew.alloc | with_reducible apply Grew.grow | with_reducible apply Grew.drew | with_reducible apply Grew.drewN))
  have hsz : w1.heap.size = w.heap.size + 1 + 1 + 1 := by rw [← hw1]; simp
  have r1 : w1.rowAt w.heap.size = iv id0 ∧ w1.rowFree w.heap.size = true := by rw [← hw1]; constructor <;> simp [go_sem]
  have r2 : w1.rowAt (w.heap.size + 1) = uv words0 ∧ w1.rowFree (w.heap.size + 1) = true := by rw [← hw1]; constructor <;> simp [go_sem]
  have r3 : w1.cell? ⟨w.heap.size + 1 + 1, 0, none⟩ = some (.pointer (some ⟨w.heap.size + 1, 0, none⟩)) := by rw [← hw1]; simp [go_sem]
  have hwe : ((w.alloc (Obj.cells (iv id0) 23)).alloc (Obj.cells #[.int .u32 1779033703, .int .u32 3144134277, .int .u32 1013904242, .int .u32 2773480762, .int .u32 1359893119, .int .u32 2600822924, .int .u32 528734635, .int .u32 1541459225] 64)).alloc (Obj.cells #[.pointer (some ⟨w.heap.size + 1, 0, none⟩)] 62) = w1 := by
    rw [← hw1]; rfl
  rw [hwe]
  clear hw1 hwe
  refine ⟨trivial, (callsIn_wide.2 (pad_o l v w1 hl (HV.out.grew hgw))).mono ?_⟩
  rintro e w2 ⟨b, cap, K, rfl, hKl, hKc, hcap, hb1, hb2, hcs, hg12⟩
  obtain ⟨N, hN⟩ : ∃ N, 64 * K = N := ⟨_, rfl⟩
  have hg2 := hgw.trans hg12
  have hK : K ≤ 100000000 := by have := pad_len l; omega
  have q1 : w2.rowAt w.heap.size = iv id0 := by rw [Grew.rowAt hg12 _ (by omega)]; exact r1.1
  have q2 : w2.rowFree w.heap.size = true := by rw [Grew.rowFree hg12 _ (by omega)]; exact r1.2
  have q3 : w2.rowAt (w.heap.size + 1) = uv words0 := by rw [Grew.rowAt hg12 _ (by omega)]; exact r2.1
  have q4 : w2.rowFree (w.heap.size + 1) = true := by rw [Grew.rowFree hg12 _ (by omega)]; exact r2.2
  have q5 := hg12.cell r3
  have hs12 := hg12.size
  obtain ⟨r0, hr0⟩ : ∃ r0, w.heap.size = r0 := ⟨_, rfl⟩
  have HCS := Lib.hid hcs
  have HK := Lib.hid (And.intro hN (And.intro hKl hKc))
  rw [hN]
  clear hKl hKc hN
  have HG2 := Lib.hid hg2
  have Q := Lib.hid (And.intro q1 (And.intro q2 (And.intro q3 (And.intro q4 q5))))
  clear r1 r2 r3 q1 q2 q3 q4 q5 hcs hg2 hg12 hgw
  gi_wp2
  refine ⟨trivial, (chunk_in .wide (n - 1) trivial rfl _ _ _ _).mono ?_⟩
  rintro e w3 ⟨rfl, hw3⟩
  obtain ⟨q1, q2, q3, q4, q5⟩ := Q.out
  have hs3 : w3.heap.size = w2.heap.size + 1 + 1 := by rw [hw3]; simp
  have hg23 : Grew w2 w3 := by rw [hw3]; exact (by repeat (first | with_reducible exact Grew.refl _ | with_reducible apply Grew.alloc | with_reducible apply Grew.grow | with_reducible apply Grew.drew | with_reducible apply Grew.drewN))
  have hg3 := Lib.hid (HG2.out.trans hg23)
  have c1 : w3.cell? ⟨w2.heap.size, 0, none⟩ = some (.slice (some ⟨b, 0, none⟩) N cap) := by rw [hw3]; simp [go_sem]
  have c2 : w3.cell? ⟨w2.heap.size + 1, 0, none⟩ = some (.int .i64 64) := by rw [hw3]; simp [go_sem]
  have HCS3 := Lib.hid (fun j hj => hg23.cell (HCS.out j hj))
  have p1 : w3.rowAt w.heap.size = iv id0 := by rw [Grew.rowAt hg23 _ (by omega)]; exact q1
  have p2 : w3.rowFree w.heap.size = true := by rw [Grew.rowFree hg23 _ (by omega)]; exact q2
  have p3 : w3.rowAt (w.heap.size + 1) = uv words0 := by rw [Grew.rowAt hg23 _ (by omega)]; exact q3
  have p4 : w3.rowFree (w.heap.size + 1) = true := by rw [Grew.rowFree hg23 _ (by omega)]; exact q4
  have p5 := hg23.cell q5
  clear hw3 hg23 q1 q2 q3 q4 q5 Q HCS HG2
  rw [hr0] at p1 p2 p3 p4 p5 hsz
  have HR0 := Lib.hid hr0
  clear hr0
  gi_wp2
  refine wpIn_rangeFunc_ownG (by subst hF; rfl) h1 (gf := 59) (lb := #[.pointer (some ⟨w2.heap.size, 0, none⟩), .pointer (some ⟨w2.heap.size + 1, 0, none⟩)]) rfl (by subst hF; trivial) (enters_of Try.func59 (by kernel_rfl) rfl)
    (chunk_stops F (n - 1) (by subst hF; trivial) (by subst hF; rfl) (by omega) w2.heap.size (w2.heap.size + 1) (r0 + 1) w3.heap.size b 0 K cap hK (by omega) (by omega) (by omega) (by omega) (by omega) (by omega) w3 (Nat.le_refl _) (by rw [HK.out.1]; exact c1) c2 HK.out.2.2 hcap)
    (fun h k => h.trans k) (fun W l o o' hl h _ _ k hk hne => World.putObj_heap_other (by omega)) (Below.refl _ _) (fun _ => rfl)
    (fun pre W => Grew (w3.setRow (r0 + 1) (uv (sumOf (pad l) (pre.map (·.1))))) W) (fun _ _ _ => False) (own_grew _ _ (fun _ => setRow_size _ _ _)) (fun _ _ _ _ _ hs _ _ => hs)
    (by rw [show sumOf (pad l) (List.map (·.1) ([] : List (Part K))) = words0 from rfl, ← p3, setRow_same' _ _ p4]; exact Grew.refl _)
    (fun x => { tmps := #[v, undef, .pointer (some ⟨r0, 0, none⟩), .pointer (some ⟨r0 + 1 + 1, 0, none⟩), .slice (some ⟨b, 64 * x.1, none⟩) 64 64, undef, undef, .agg #[.int .u32 1779033703, .int .u32 3144134277, .int .u32 1013904242, .int .u32 2773480762, .int .u32 1359893119, .int .u32 2600822924, .int .u32 528734635, .int .u32 1541459225], .pointer (some ⟨r0 + 1, 0, none⟩), v, .slice (some ⟨b, 0, none⟩) N cap, .func (.func 59) #[] #[.pointer (some ⟨w2.heap.size, 0, none⟩), .pointer (some ⟨w2.heap.size + 1, 0, none⟩)], .slice (some ⟨b, 64 * x.1, none⟩) 64 64, undef, undef, undef, undef, undef, undef, undef, undef, undef, undef, undef, undef, undef, undef, undef, undef, undef, undef, undef, undef, undef, undef], defers := [] }) ?assign ?body ?done ?stop
  case assign =>
    intro l x W K hK
    gi_wp2
    exact hK
  case body =>
    rintro lb pre x W hI hlen
    subst hF
    obtain ⟨S, hS⟩ : ∃ S, sumOf (pad l) (pre.map (·.1)) = S := ⟨_, rfl⟩
    rw [hS] at hI
    have i1 : W.cell? ⟨r0 + 1 + 1, 0, none⟩ = some (.pointer (some ⟨r0 + 1, 0, none⟩)) := hI.cell (by rw [cell_setRow_other _ _ _ _ (by simp)]; exact p5)
    have i2 : W.rowAt (r0 + 1) = uv S := by rw [Grew.rowAt hI _ (by rw [setRow_size]; omega), rowAt_setRow_free _ _ _ p4]
    have i3 : W.rowFree (r0 + 1) = true := by rw [Grew.rowFree hI _ (by rw [setRow_size]; omega), rowFree_setRow_free _ _ _ p4]
    have hSl : S.length = 8 := by rw [← hS]; exact sumOf_len _ _
    have i4 : ∀ j, j < 64 → W.cell? ⟨b, 64 * x.1 + j, none⟩ = some (.int .u8 (byteAt ((pad l).drop (64 * x.1)) j : Nat)) := fun j hj => by
      rw [byteAt_drop]
      refine hI.cell ?_
      rw [cell_setRow_other _ _ _ _ (by show b ≠ _; omega)]
      have := HCS3.out (64 * x.1 + j) (by have := x.2; omega)
      rwa [Nat.zero_add] at this
    have HI := Lib.hid hI
    clear hI p1 p2 p3 c1 c2 hcap
    gi_wp2
    refine ⟨trivial, fun _ => by omega, (CallsIn.inRound lb (callsIn_wide.2 (add_w S ((pad l).drop (64 * x.1)) hSl (fun c hc => pad_lt l hb c (List.mem_of_mem_drop hc)) (r0 + 1) b (64 * x.1) 64 W i2 i3 (by omega) i4))).mono ?_⟩
    rintro e W' ⟨⟨u, rfl⟩, hg'⟩
    gi_wp2
    obtain ⟨k1, k2, k3⟩ := part_step w3 W W' (r0 + 1) w3.heap.size _ _ (by omega) rfl p4 HI.out hg'
    refine ⟨k1, k2, ?_⟩
    show Grew (w3.setRow (r0 + 1) (uv (sumOf (pad l) ((pre ++ [x]).map (·.1))))) W'
    rw [List.map_append, List.map_cons, List.map_nil, sumOf_snoc, hS]
    exact k3
  case done =>
    rintro D ys W hD hS hI HDD
    rw [hS, sumOf_range] at hI
    obtain ⟨S, hS2⟩ : ∃ S, sumk (pad l) K = S := ⟨_, rfl⟩
    rw [hS2] at hI
    have i1 : W.cell? ⟨r0 + 1 + 1, 0, none⟩ = some (.pointer (some ⟨r0 + 1, 0, none⟩)) := hI.cell (by rw [cell_setRow_other _ _ _ _ (by simp)]; exact p5)
    have i2 : W.rowAt (r0 + 1) = uv S := by rw [Grew.rowAt hI _ (by rw [setRow_size]; omega), rowAt_setRow_free _ _ _ p4]
    have i3 : W.rowFree (r0 + 1) = true := by rw [Grew.rowFree hI _ (by rw [setRow_size]; omega), rowFree_setRow_free _ _ _ p4]
    have hSl : S.length = 8 := by rw [← hS2, ← sumOf_range]; exact sumOf_len _ _
    have i5 : W.rowAt r0 = iv id0 := by rw [Grew.rowAt hI _ (by rw [setRow_size]; omega), rowAt_of_heap (heap_setRow_other _ _ _ _ (by omega))]; exact p1
    have i6 : W.rowFree r0 = true := by rw [Grew.rowFree hI _ (by rw [setRow_size]; omega), rowFree_of_heap (heap_setRow_other _ _ _ _ (by omega))]; exact p2
    have hgW : Grew w W := (Grew.setRow_new hg3.out (r0 + 1) _ (by have := HR0.out; omega)).trans hI
    have hsW : w3.heap.size ≤ W.heap.size := by have := hI.size; rw [setRow_size] at this; exact this
    have HGW := Lib.hid hgW
    have l0 : r0 < W.heap.size := by omega
    have l1 : r0 + 1 < W.heap.size := by omega
    have l2 : r0 + 1 + 1 < W.heap.size := by omega
    have i7 := fun (j : Nat) => show W.cell? ⟨r0 + 1, j, none⟩ = (uv S)[j]? by rw [cell_rowAt, i2]
    have HS := Lib.hid hS2
    clear hI p1 p2 p3 p4 p5 c1 c2 hcap hgW hS2 hS hg3 HCS3
    gi_wp2
    gi_loopw [16] (fun i wr => ∃ k : Nat, k ≤ 32 ∧ i = .int .i64 k ∧ wr = W.alloc (.cells (iv (outk S k)) 23)) (fun i _ => 32 - (intOf i).toNat)
    case atStart => exact ⟨0, by omega, rfl, by rw [outk_0]⟩
    case round =>
      obtain ⟨k, hk, rfl, rfl⟩ := hrel
      by_cases hn2 : k < 32
      · have hlt : (k : Int) < 32 := by omega
        have ho := outk_len S k
        have hos := outk_set S k
        obtain ⟨q, hq⟩ : ∃ q, 24 - 8 * (k % 4) = q := ⟨_, rfl⟩
        have hq1 : (24 : Int) - 8 * ((k : Int) % 4) = (q : Int) := by omega
        obtain ⟨q4, hq4⟩ : ∃ q4, k / 4 = q4 := ⟨_, rfl⟩
        have hd : (k : Int) / 4 = (q4 : Int) := by omega
        have hd2 : q4 < 8 := by omega
        have hd3 : (q4 : Int) < 8 := by omega
        have hu := uv_at S q4 (by omega)
        have hq5 : q ≤ 24 := by omega
        have hwb : u (wordAt S q4) / 2 ^ q % 256 = ((wordByte S k : Nat) : Int) := by
          unfold wordByte u; rw [hq, hq4, Int.natCast_emod, Int.natCast_ediv, Int.natCast_pow]; rfl
        have hat := iv_at (outk S k) k (by rw [ho]; omega)
        clear hk hn2 hq hq4
        gi_wp2
        exact ⟨⟨k + 1, by omega, by go_num, rfl⟩, by simp only [intOf]; omega⟩
      · obtain rfl : k = 32 := by omega
        clear hk hn2
        have ho := outk_len S 32
        gi_wp2
        have hDW : D < W.heap.size := (Array.getElem?_eq_some_iff.1 HDD).1
        have hDr : D ≠ r0 := by omega
        have e0 : w.heap.size = r0 := HR0.out
        have hD2 : ((W.setRow r0 (iv (outk S 32))).alloc (.cells (iv (outk S 32)) 23)).heap[D]? = some (.deferred (some [])) := by
          rw [Go.heap_alloc_old _ _ (by rw [setRow_size]; exact hDW), heap_setRow_other _ _ _ _ hDr]; exact HDD
        refine ⟨by simp, .inl ⟨_, _, rfl, run_takeDeferred hD2, ?_⟩⟩
        refine ⟨_, id_result rfl _ rfl (l := outk S 32) ?_ ho, ?_, ?_⟩
        · rw [rowAt_of_heap (World.putObj_heap_other (Ne.symm hDr)), rowAt_alloc_past _ _ _ (by rw [setRow_size]; exact l0), rowAt_setRow_free _ _ _ i6]
        · have hq := HK.out
          rw [sum, ← hq.2.1, Nat.mul_div_cancel_left _ (by omega), HS.out]
        · exact Grew.grown ((Grew.setRow_new HGW.out r0 _ (by omega)).alloc _) (grownBy_putObj' _ D (.deferred none)) (fun k e => by cases e; omega)
  case stop =>
    rintro D c pre W _ _ h _
    exact h.elim
theorem sum_w (l : List Nat) (v : Value) (w : World) (hl : l.length ≤ 1073741824) (hb : ∀ c ∈ l, c < 256) (hv : Shows w v (bys l)) :
    Calls Try.prog 13 #[v] w fun e w' => e = .returned (.agg (iv (sum l))) ∧ Grew w w' :=
  (callsIn_wide (n := 3)).1 (sum_in .wide 3 l rfl (Nat.le_refl _) v w hl hb hv)
end Go.Proofs.Ytommbfgagalckaa
/- What bytes become, byte by byte; bytes as strings. -/
namespace Go.Proofs.Ytommbfgagalckaa
set_option linter.unusedVariables false
set_option linter.unusedSimpArgs false
open Go.RowKit
set_option maxRecDepth 100000
theorem byteAt_app (a b : List Nat) (i : Nat) : byteAt (a ++ b) i = if i < a.length then byteAt a i else byteAt b (i - a.length) := by
  unfold byteAt List.getD
  split
  · rename_i h; rw [List.getElem?_append_left h]
  · rename_i h; rw [List.getElem?_append_right (by omega)]
theorem byteAt_eq' (l : List Nat) (j : Nat) (h : j < l.length) : some (Value.int .u8 (byteAt l j : Nat)) = (bys l)[j]? := by rw [byteAt_eq l j h]; simp [bys, h]
theorem byteAt_zeros (n i : Nat) : byteAt (zeros n) i = 0 := by
  unfold byteAt zeros List.getD
  by_cases h : i < n
  · simp [h]
  · simp [h]
theorem byteAt_cons (c : Nat) (l : List Nat) (i : Nat) : byteAt (c :: l) (i + 1) = byteAt l i := by simp [byteAt, List.getD]
theorem tailk_8 (n : Nat) : tailk n 8 = [n / 2 ^ 56 % 256, n / 2 ^ 48 % 256, n / 2 ^ 40 % 256, n / 2 ^ 32 % 256, n / 2 ^ 24 % 256, n / 2 ^ 16 % 256, n / 2 ^ 8 % 256, n / 2 ^ 0 % 256] := rfl
theorem tailk_small (n : Nat) (h : n < 65536) : tailk n 8 = zeros 6 ++ [n / 256, n % 256] := by
  rw [tailk_8]
  simp only [zeros, List.replicate, List.cons_append, List.nil_append, List.cons.injEq]
  have e : ∀ k, 65536 ≤ 2 ^ k → n / 2 ^ k % 256 = 0 := fun k hk => by rw [Nat.div_eq_of_lt (by omega)]
  refine ⟨e 56 (by decide), e 48 (by decide), e 40 (by decide), e 32 (by decide), e 24 (by decide), e 16 (by decide), by omega, by omega, trivial⟩
/-- The zeros' number. -/
def padz (l : List Nat) : Nat := (64 - (l.length + 9) % 64) % 64
theorem pad_small (l : List Nat) (h : l.length ≤ 400) : pad l = (l ++ (128 :: zeros (padz l + 6))) ++ [8 * l.length / 256, 8 * l.length % 256] := by
  unfold pad
  rw [tailk_small _ (by omega)]
  have : zeros (padz l + 6) = zeros (padz l) ++ zeros 6 := by unfold zeros; rw [List.replicate_append_replicate]
  rw [this]
  simp [padz]
theorem pad_len' (l : List Nat) : (pad l).length = l.length + 9 + padz l := pad_len l
theorem padz_lt (l : List Nat) : padz l < 64 := Nat.mod_lt _ (by omega)
theorem pad_take (l : List Nat) : (pad l).take l.length = l := by unfold pad; rw [List.take_left]
theorem pad_at_len (l : List Nat) : byteAt (pad l) l.length = 128 := by
  unfold pad
  rw [byteAt_app, if_neg (by omega), Nat.sub_self]
  rfl
theorem pad_at_zero (l : List Nat) (h : l.length ≤ 400) (i : Nat) (h1 : l.length < i) (h2 : i < (pad l).length - 2) : byteAt (pad l) i = 0 := by
  have hp := pad_len' l
  rw [pad_small l h, byteAt_app, if_pos (by simp [zeros_len]; omega), byteAt_app, if_neg (by omega)]
  obtain ⟨j, hj⟩ : ∃ j, i - l.length = j + 1 := ⟨i - l.length - 1, by omega⟩
  rw [hj, byteAt_cons, byteAt_zeros]
theorem pad_at_end (l : List Nat) (h : l.length ≤ 400) : byteAt (pad l) ((pad l).length - 2) = 8 * l.length / 256 ∧ byteAt (pad l) ((pad l).length - 1) = 8 * l.length % 256 := by
  have hp := pad_len' l
  have hl : (l ++ (128 :: zeros (padz l + 6))).length = (pad l).length - 2 := by simp [zeros_len]; omega
  have e1 : (pad l).length - 1 = (pad l).length - 2 + 1 := by omega
  generalize (pad l).length = n at *
  rw [pad_small l h]
  constructor
  · rw [byteAt_app, if_neg (by omega), hl, Nat.sub_self]; rfl
  · rw [byteAt_app, if_neg (by omega), hl, e1, show n - 2 + 1 - (n - 2) = 1 by omega]; rfl
end Go.Proofs.Ytommbfgagalckaa
/- The document's pow, turn and numbers. -/
namespace Go.Proofs.Ytommbfgagalckaa
set_option linter.unusedVariables false
set_option linter.unusedSimpArgs false
open Go.RowKit
set_option maxRecDepth 100000
/-- The cells of words. -/
def wsl (l : List (BitVec 32)) : List Value := l.map fun x => Value.int .u32 (u x)
theorem wsl_len (l : List (BitVec 32)) : (wsl l).length = l.length := by simp [wsl]
theorem wsl_append (l m : List (BitVec 32)) : wsl (l ++ m) = wsl l ++ wsl m := by simp [wsl]
theorem wsl_one (l : List (BitVec 32)) : ∀ x ∈ wsl l, x.oneCell' = true := by
  intro x hx
  obtain ⟨c, _, rfl⟩ := List.mem_map.1 hx
  rfl
theorem wsl_at (l : List (BitVec 32)) (i : Nat) (h : i < (wsl l).length) : (wsl l)[i] = .int .u32 (u (wordAt l i)) := by
  rw [wordAt_eq l i (by rwa [wsl_len] at h)]; simp [wsl]
theorem under_ws : Try.prog.underlying 102 = some (.slice 27) := by kernel_rfl
set_option maxRecDepth 100000 in
theorem info_w : ∃ i, Try.prog.info? 27 = some i ∧ i.zero = some (.int .u32 0) ∧ i.size = 1 ∧ i.bytes = 4 := by
  refine ⟨_, rfl, ?_, ?_, ?_⟩ <;> kernel_rfl
set_option maxRecDepth 100000 in
set_option maxHeartbeats 1600000 in
theorem rpow_w (n : Nat) (hn : n < 32) (w : World) :
    Calls Try.prog 89 #[.int .i64 (n : Int)] w fun e w' => e = .returned (.int .u32 ((2 ^ n : Nat) : Int)) ∧ Grew w w' := by
  go_enter Try.func89, Try.ntmps89
  go_wp2
  go_loopw [4, 3] (fun i p wr => ∃ k : Nat, k ≤ n ∧ i = .int .i64 k ∧ p = .int .u32 ((2 ^ k : Nat) : Int) ∧ wr = w) (fun i _ _ => n - (intOf i).toNat)
  case atStart => exact ⟨0, by omega, rfl, rfl, rfl⟩
  case round =>
    obtain ⟨k, hk, rfl, rfl, rfl⟩ := hrel
    by_cases h : k < n
    · have hlt : (k : Int) < (n : Int) := by omega
      have hp : 2 ^ (k + 1) ≤ 2 ^ 31 := Nat.pow_le_pow_right (by omega) (by omega)
      have hs : 2 ^ (k + 1) = 2 * 2 ^ k := by rw [Nat.pow_succ]; omega
      obtain ⟨a, ha⟩ : ∃ a, 2 ^ k = a := ⟨_, rfl⟩
      rw [ha] at hs ⊢
      have e6 : IntKind.u32.wrap (2 * (a : Int)) = ((2 ^ (k + 1) : Nat) : Int) := by
        rw [hs] at hp ⊢
        show (2 * (a : Int)) % 4294967296 = _
        omega
      clear hk h hp hs ha
      go_wp2
      exact ⟨⟨k + 1, by omega, by go_num, rfl, trivial⟩, by simp only [intOf]; omega⟩
    · obtain rfl : k = n := by omega
      have hge : ¬ ((k : Int) < (k : Int)) := by omega
      clear hk h hn
      go_wp2
      go_ret
      exact ⟨rfl, Grew.refl _⟩
theorem turn_u (x : BitVec 32) (n : Nat) (h1 : 1 ≤ n) (h2 : n < 32) : IntKind.u32.wrap (u x / ((2 ^ n : Nat) : Int) + IntKind.u32.wrap (u x * ((2 ^ (32 - n) : Nat) : Int))) = u (rr n x) := by
  have hr := rot_u x (32 - n) (by omega)
  rw [show 32 - (32 - n) = n by omega] at hr
  rw [Int.natCast_pow, Int.natCast_pow]
  show IntKind.u32.wrap (u x / 2 ^ n + IntKind.u32.wrap (u x * 2 ^ (32 - n))) = u (x.rotateLeft (32 - n))
  rw [← hr]
  have hx := u_bd x
  obtain ⟨a, ha⟩ : ∃ a : Nat, u x = a := ⟨x.toNat, rfl⟩
  rw [ha] at hx ⊢
  have e1 : IntKind.u32.wrap ((a : Int) * 2 ^ (32 - n)) = ((a % 2 ^ n * 2 ^ (32 - n) : Nat) : Int) := by
    show ((a : Int) * 2 ^ (32 - n)) % 4294967296 = _
    have hpp : 2 ^ n * 2 ^ (32 - n) = 4294967296 := by rw [← Nat.pow_add, show n + (32 - n) = 32 by omega]
    have hm : (a * 2 ^ (32 - n)) % (2 ^ n * 2 ^ (32 - n)) = a % 2 ^ n * 2 ^ (32 - n) := Nat.mul_mod_mul_right _ _ _
    rw [hpp] at hm
    rw [← hm, Int.natCast_emod, Int.natCast_mul, Int.natCast_pow]
    rfl
  have e2 : (a : Int) / 2 ^ n = ((a / 2 ^ n : Nat) : Int) := by rw [Int.natCast_ediv, Int.natCast_pow]; rfl
  have hpp : 2 ^ n * 2 ^ (32 - n) = 4294967296 := by rw [← Nat.pow_add, show n + (32 - n) = 32 by omega]
  have hq1 : a / 2 ^ n < 2 ^ (32 - n) := by
    rw [Nat.div_lt_iff_lt_mul (Nat.pow_pos (by omega)), Nat.mul_comm, hpp]; omega
  have hq2 : a % 2 ^ n * 2 ^ (32 - n) + 2 ^ (32 - n) ≤ 4294967296 := by
    have := Nat.mul_le_mul_right (2 ^ (32 - n)) (show a % 2 ^ n + 1 ≤ 2 ^ n from Nat.mod_lt _ (Nat.pow_pos (by omega)))
    rw [hpp, Nat.add_mul, Nat.one_mul] at this
    exact this
  rw [e1, e2]
  have hor := or_add (a % 2 ^ n) (a / 2 ^ n) (32 - n) hq1
  obtain ⟨p, hp⟩ : ∃ p, a % 2 ^ n * 2 ^ (32 - n) = p := ⟨_, rfl⟩
  obtain ⟨q, hq⟩ : ∃ q, a / 2 ^ n = q := ⟨_, rfl⟩
  obtain ⟨r, hr2⟩ : ∃ r, 2 ^ (32 - n) = r := ⟨_, rfl⟩
  rw [hp, hq] at hor
  rw [hp, hq]
  rw [hp, hr2] at hq2
  rw [hq, hr2] at hq1
  have hr3 : 0 < r := by rw [← hr2]; exact Nat.pow_pos (by omega)
  have hr4 : r ≤ 4294967296 := by omega
  rw [or_u32_nat _ _ (by omega) (by omega), hor]
  show ((q : Int) + (p : Int)) % 4294967296 = _
  omega
set_option maxRecDepth 100000 in
set_option maxHeartbeats 1600000 in
theorem rturn_w (x : BitVec 32) (n : Nat) (h1 : 1 ≤ n) (h2 : n < 32) (w : World) :
    Calls Try.prog 88 #[.int .u32 (u x), .int .i64 (n : Int)] w fun e w' => e = .returned (.int .u32 (u (rr n x))) ∧ Grew w w' := by
  have ht := turn_u x n h1 h2
  have hc : (32 : Int) - (n : Int) = ((32 - n : Nat) : Int) := by omega
  have p1 := fun w => rpow_w n h2 w
  have p2 := fun w => rpow_w (32 - n) (by omega) w
  obtain ⟨a, ha⟩ : ∃ a : Nat, 2 ^ n = a := ⟨_, rfl⟩
  obtain ⟨b, hb⟩ : ∃ b : Nat, 2 ^ (32 - n) = b := ⟨_, rfl⟩
  obtain ⟨m, hm⟩ : ∃ m : Nat, 32 - n = m := ⟨_, rfl⟩
  have ha1 : 1 ≤ a := by rw [← ha]; exact Nat.one_le_two_pow
  have ha2 : (a : Int) ≠ 0 := by omega
  have ha3 : 1 ≤ (a : Int) := by omega
  have hx := u_bd x
  have hx1 := hx.1
  have hx2 : u x ≤ 4294967295 := by omega
  rw [hm] at hc p2
  rw [ha] at p1 ht
  rw [hm] at hb
  rw [hm, hb] at ht
  rw [hb] at p2
  have ht' : (u x / (a : Int) + u x * (b : Int) % 4294967296) % 4294967296 = u (rr n x) := ht
  have P1 := Lib.hid p1
  have P2 := Lib.hid p2
  clear p1 p2 ha hb hm h1 h2 hx ha1 ht
  go_enter Try.func88, Try.ntmps88
  go_wp2
  refine wp_region_flow (by kernel_rfl) ?_
  intro δf
  apply wpFlow_quiets [0,1,2,3,4,5,6] (by decide +kernel) (by decide +kernel) (by kernel_rfl) (by intro _ _ _ d _ h; cases d <;> exact h) _
  · intro A hA δ'
    simp only [pickOps_cons, pickOps_nil, pick1_zero, pick1_succ]
    repeat (go_big_quiet_step ((go_at_call 89; exact Calls.pure_of_g3 (P1.out _))))
    exact wpQuiet_nil hA.out.symm
  clear P1
  apply wpFlow_quiets [7,8,9,10] (by decide +kernel) (by decide +kernel) (by kernel_rfl) (by intro _ _ _ d _ h; cases d <;> exact h) _
  · intro A hA δ'
    simp only [pickOps_cons, pickOps_nil, pick1_zero, pick1_succ]
    repeat (go_big_quiet_step ((go_at_call 89; exact Calls.pure_of_g3 (P2.out _))))
    exact wpQuiet_nil hA.out.symm
  refine wpFlow_end (by decide +kernel) (by kernel_rfl) ?_
  intro δf
  go_wp2
  go_ret
  exact ⟨congrArg (fun z => Ending.returned (.int .u32 z)) ht', (by repeat (first | with_reducible exact Grew.refl _ | with_reducible apply Grew.alloc | with_reducible apply Grew.grow | with_reducible apply Grew.drew | with_reducible apply Grew.drewN))⟩
theorem rturn_i (x : BitVec 32) (n : Int) (hn : rotI n = true) (w : World) :
    Calls Try.prog 88 #[.int .u32 (u x), .int .i64 n] w fun e w' => e = .returned (.int .u32 (u (rr n.toNat x))) ∧ Grew w w' := by
  have h := of_decide_eq_true hn
  obtain ⟨m, rfl⟩ : ∃ m : Nat, n = m := ⟨n.toNat, by omega⟩
  exact rturn_w x m (by omega) (by omega) w
end Go.Proofs.Ytommbfgagalckaa
/- The document's numbers, words. -/
namespace Go.Proofs.Ytommbfgagalckaa
set_option linter.unusedVariables false
set_option linter.unusedSimpArgs false
open Go.RowKit
theorem wsl_get (l : List (BitVec 32)) (i : Nat) (h : i < l.length) : (wsl l)[i]? = some (.int .u32 (u (wordAt l i))) := by rw [wordAt_eq l i h]; simp [wsl, h]
theorem be32_sum (a b c d : Nat) (ha : a < 256) (hb : b < 256) (hc : c < 256) (hd : d < 256) : (16777216 : Int) * a + 65536 * b + 256 * c + d = u (be32 a b c d) := by
  unfold u be32
  rw [BitVec.toNat_ofNat]
  omega
set_option maxRecDepth 100000 in
set_option maxHeartbeats 3200000 in
theorem rwords_w (l : List Nat) (hl : ∀ c ∈ l, c < 256) (bB o c : Nat) (w : World) (hb : ∀ j, j < 64 → w.cell? ⟨bB, o + j, none⟩ = some (.int .u8 (byteAt l j : Nat))) :
    Calls Try.prog 84 #[.slice (some ⟨bB, o, none⟩) 64 c] w fun e w' => ∃ v, e = .returned v ∧ OwnR w' w.heap.size 27 v (wsl (sched l 64)) ∧ Grew w w' := by
  obtain ⟨iw, hi, hz, hsz, hby⟩ := info_w
  have l2 : bB < w.heap.size := World.block_lt_of_cell? w _ (hb 0 (by omega))
  have HB := Lib.hid hb
  have HL := Lib.hid (fun i => byteAt_lt l hl i)
  clear hb hl
  go_enter Try.func84, Try.ntmps84
  go_wp2
  go_loopw [4, 3] (fun n v wr => ∃ k : Nat, k ≤ 16 ∧ n = .int .i64 k ∧ OwnR wr w.heap.size 27 v (wsl (sched l k)) ∧ Grew w wr) (fun n _ _ => 16 - (intOf n).toNat)
  case atStart => exact ⟨0, by omega, rfl, OwnR.nil _ _ _, Grew.refl _⟩
  case round =>
    obtain ⟨k, hk, rfl, ho, hg⟩ := hrel
    have HO := Lib.hid ho
    have HG := Lib.hid hg
    have hsz0 := hg.size
    clear ho hg
    by_cases hn : k < 16
    · have hlt : (k : Int) < 16 := by omega
      have c0 := HG.out.cell (HB.out (4 * k) (by omega))
      have c1 := HG.out.cell (HB.out (4 * k + 1) (by omega))
      have c2 := HG.out.cell (HB.out (4 * k + 2) (by omega))
      have c3 := HG.out.cell (HB.out (4 * k + 3) (by omega))
      have a0 := HL.out (4 * k)
      have a1 := HL.out (4 * k + 1)
      have a2 := HL.out (4 * k + 2)
      have a3 := HL.out (4 * k + 3)
      have o4 := be32_sum _ _ _ _ a0 a1 a2 a3
      have hlw : bB < wr.heap.size := by omega
      have hsl : (wsl (sched l k)).length = k := by rw [wsl_len, sched_len]
      have hnext : wsl (sched l (k + 1)) = wsl (sched l k) ++ [.int .u32 (u (be32 (byteAt l (4 * k)) (byteAt l (4 * k + 1)) (byteAt l (4 * k + 2)) (byteAt l (4 * k + 3))))] := by
        rw [sched, if_pos hn, wsl_append]; rfl
      obtain ⟨y0, hy0⟩ : ∃ y, byteAt l (4 * k) = y := ⟨_, rfl⟩
      obtain ⟨y1, hy1⟩ : ∃ y, byteAt l (4 * k + 1) = y := ⟨_, rfl⟩
      obtain ⟨y2, hy2⟩ : ∃ y, byteAt l (4 * k + 2) = y := ⟨_, rfl⟩
      obtain ⟨y3, hy3⟩ : ∃ y, byteAt l (4 * k + 3) = y := ⟨_, rfl⟩
      rw [hy0] at c0 a0
      rw [hy1] at c1 a1
      rw [hy2] at c2 a2
      rw [hy3] at c3 a3
      rw [hy0, hy1, hy2, hy3] at o4 hnext
      obtain ⟨z, hzz⟩ : ∃ z, be32 y0 y1 y2 y3 = z := ⟨_, rfl⟩
      rw [hzz] at o4 hnext
      have HN := Lib.hid hnext
      clear hy0 hy1 hy2 hy3 hzz hnext hk hn
      go_wp2
      refine wp_region_flowX [35,36] (by kernel_rfl) ?_
      intro δf
      apply wpFlowX_quiets [0,1,2,3,4,5,6,7,8,9,10,11,12,13,14,15,16,17,18,19,20,21,22,23,24,25,26,27,28,29,30,31,32,33] (by decide +kernel) (by decide +kernel) (by kernel_rfl) (by intro _ _ _ d _ h; cases d <;> exact h) _
      · intro A hA δ'
        simp only [pickOps_cons, pickOps_nil, pick1_zero, pick1_succ]
        repeat (go_big_quiet_step ((fail)))
        exact wpQuiet_nil hA.out.symm
      refine wpFlowX_one 34 (by decide +kernel) (by kernel_rfl) (by decide +kernel) (by decide +kernel) ?_
      simp only [pickOps_cons, pickOps_nil, pick1_zero, pick1_succ]
      intro δf
      go_wp2_with (fail)
      refine ⟨(by first | assumption | (simp only [grow_grow, Array.append_assoc]; assumption) | exact Grew.refl _ | (simp only [grow_grow, Array.append_assoc]; exact (by repeat (first | with_reducible exact Grew.refl _ | with_reducible apply Grew.alloc | with_reducible apply Grew.grow | with_reducible apply Grew.drew | with_reducible apply Grew.drewN))) | exact (by repeat (first | with_reducible exact Grew.refl _ | with_reducible apply Grew.alloc | with_reducible apply Grew.grow | with_reducible apply Grew.drew | with_reducible apply Grew.drewN))), ?_⟩
      refine wpFlowX_esc 35 (by decide +kernel) (by kernel_rfl) (by decide +kernel) (by decide +kernel) ?_
      simp only [pickOps_cons, pickOps_nil, pick1_zero, pick1_succ]
      intro δf
      refine wpList_appends rfl _ _ _ rfl _ iw _ 4 under_ws hi hz hsz hby rfl w _ _ _ rfl rfl _ [.int .u32 (u z)] (HG.out.trans (by repeat (first | with_reducible exact Grew.refl _ | with_reducible apply Grew.alloc | with_reducible apply Grew.grow | with_reducible apply Grew.drew | with_reducible apply Grew.drewN))) (HO.out.grew (by repeat (first | with_reducible exact Grew.refl _ | with_reducible apply Grew.alloc | with_reducible apply Grew.grow | with_reducible apply Grew.drew | with_reducible apply Grew.drewN))) (by first | exact (shows_one_g _ _ _ _ _).grew (by repeat (first | with_reducible exact Grew.refl _ | with_reducible apply Grew.alloc | with_reducible apply Grew.grow | with_reducible apply Grew.drew | with_reducible apply Grew.drewN)) | exact (shows_one_g2 _ _ _ _ _ _).grew (by repeat (first | with_reducible exact Grew.refl _ | with_reducible apply Grew.alloc | with_reducible apply Grew.grow | with_reducible apply Grew.drew | with_reducible apply Grew.drewN))) (by simp [Value.oneCell']) (by rw [hsl]; simp only [maxLen, List.length_cons, List.length_nil]; omega) (by rw [hsl]; simp only [List.length_cons, List.length_nil]; omega) ?_
      intro v' w2' ho' hg'
      rw [← HN.out] at ho'
      refine wpList_nil_then ?_
      refine wpAny_one 36 (by decide +kernel) (by kernel_rfl) (by decide +kernel) ?_
      simp only [pickOps_cons, pickOps_nil, pick1_zero, pick1_succ]
      go_wp2_with (fail)
      refine wpAny_end (by decide +kernel) (by kernel_rfl) ?_
      go_wp2
      exact ⟨⟨k + 1, by omega, by go_num, ho', hg'⟩, by simp only [intOf]; omega⟩
    · obtain rfl : k = 16 := by omega
      clear hk hn
      go_wp2
      go_loopw [5, 3] (fun n v wr2 => ∃ k : Nat, 16 ≤ k ∧ k ≤ 64 ∧ n = .int .i64 k ∧ OwnR wr2 w.heap.size 27 v (wsl (sched l k)) ∧ Grew w wr2) (fun n _ _ => 64 - (intOf n).toNat)
      case atStart => exact ⟨16, by omega, by omega, rfl, HO.out, HG.out⟩
      case round =>
        clear HO HG
        obtain ⟨k, hk0, hk, rfl, ho, hg⟩ := hrel
        have HO := Lib.hid ho
        have HG := Lib.hid hg
        have hsz1 := hg.size
        clear hsz0
        clear ho hg
        by_cases hn : k < 64
        · have hlt : (k : Int) < 64 := by omega
          have hsl : (wsl (sched l k)).length = k := by rw [wsl_len, sched_len]
          obtain ⟨g, cap, hv, hgb, hgs, hgc, hgm, hcell⟩ := own_form HO.out (by omega)
          rw [hsl] at hv hgc hcell
          subst hv
          have d1 := hcell (k - 15) (by omega)
          have d2 := hcell (k - 2) (by omega)
          have d3 := hcell (k - 16) (by omega)
          have d4 := hcell (k - 7) (by omega)
          rw [wsl_get _ _ (by rw [sched_len]; omega)] at d1 d2 d3 d4
          have hnext : wsl (sched l (k + 1)) = wsl (sched l k) ++ [.int .u32 (u (schedN (sched l k) k))] := by
            rw [sched, if_neg (by omega), wsl_append]; rfl
          unfold schedN at hnext
          obtain ⟨x1, hx1⟩ : ∃ y, wordAt (sched l k) (k - 15) = y := ⟨_, rfl⟩
          obtain ⟨x2, hx2⟩ : ∃ y, wordAt (sched l k) (k - 2) = y := ⟨_, rfl⟩
          obtain ⟨x3, hx3⟩ : ∃ y, wordAt (sched l k) (k - 16) = y := ⟨_, rfl⟩
          obtain ⟨x4, hx4⟩ : ∃ y, wordAt (sched l k) (k - 7) = y := ⟨_, rfl⟩
          rw [hx1] at d1
          rw [hx2] at d2
          rw [hx3] at d3
          rw [hx4] at d4
          rw [hx1, hx2, hx3, hx4] at hnext
          have hsum : x3 + x4 + (rr 7 x1 ^^^ rr 18 x1 ^^^ x1 >>> 3) + (rr 17 x2 ^^^ rr 19 x2 ^^^ x2 >>> 10) = x3 + (rr 7 x1 ^^^ rr 18 x1 ^^^ x1 >>> 3) + x4 + (rr 17 x2 ^^^ rr 19 x2 ^^^ x2 >>> 10) := by
            rw [BitVec.add_assoc x3 x4, BitVec.add_comm x4, ← BitVec.add_assoc]
          rw [hsum] at hnext
          have HN := Lib.hid hnext
          have i1 : (k : Int) - 15 = ((k - 15 : Nat) : Int) := by omega
          have i2 : (k : Int) - 2 = ((k - 2 : Nat) : Int) := by omega
          have i3 : (k : Int) - 16 = ((k - 16 : Nat) : Int) := by omega
          have i4 : (k : Int) - 7 = ((k - 7 : Nat) : Int) := by omega
          have j1 : ((k - 15 : Nat) : Int) < (k : Int) := by omega
          have j2 : ((k - 2 : Nat) : Int) < (k : Int) := by omega
          have j3 : ((k - 16 : Nat) : Int) < (k : Int) := by omega
          have j4 : ((k - 7 : Nat) : Int) < (k : Int) := by omega
          obtain ⟨n1, hn1⟩ : ∃ n, k - 15 = n := ⟨_, rfl⟩
          obtain ⟨n2, hn2⟩ : ∃ n, k - 2 = n := ⟨_, rfl⟩
          obtain ⟨n3, hn3⟩ : ∃ n, k - 16 = n := ⟨_, rfl⟩
          obtain ⟨n4, hn4⟩ : ∃ n, k - 7 = n := ⟨_, rfl⟩
          rw [hn1] at d1 i1 j1
          rw [hn2] at d2 i2 j2
          rw [hn3] at d3 i3 j3
          rw [hn4] at d4 i4 j4
          have hkI : (k : Int) ≤ 64 := by omega
          have hkl : k < 64 := hn
          have bx1 := (u_bd x1).1
          have bx2 := (u_bd x2).1
          have by1 : u x1 ≤ 4294967295 := by have := (u_bd x1).2; omega
          have by2 : u x2 ≤ 4294967295 := by have := (u_bd x2).2; omega
          clear hn1 hn2 hn3 hn4 hx1 hx2 hx3 hx4 hsum hnext hcell hk hk0 hn
          go_wp2
          first | refine wp_region_pure_lit_g (by kernel_rfl) (by kernel_rfl) ?_ | refine wp_region_pure_lit (by kernel_rfl) (by kernel_rfl) ?_
          repeat (go_big_quiet_step ((go_at_call 88; exact Calls.pure_of (rturn_i _ _ (by decide) _))))
          refine wpQuiet_nil ?_
          intro _ hw'
          obtain ⟨δ1, hw''⟩ := hw'
          subst hw''
          go_wp2
          first | refine wp_region_pure_lit_g (by kernel_rfl) (by kernel_rfl) ?_ | refine wp_region_pure_lit (by kernel_rfl) (by kernel_rfl) ?_
          repeat (go_big_quiet_step ((go_at_call 88; exact Calls.pure_of (rturn_i _ _ (by decide) _))))
          refine wpQuiet_nil ?_
          intro _ hw'
          obtain ⟨δ1, hw''⟩ := hw'
          subst hw''
          go_wp2
          refine wp_region_flowX [17,18] (by kernel_rfl) ?_
          intro δf
          apply wpFlowX_quiets [0,1,2,3,4,5,6,7,8,9,10,11,12,13,14,15] (by decide +kernel) (by decide +kernel) (by kernel_rfl) (by intro _ _ _ d _ h; cases d <;> exact h) _
          · intro A hA δ'
            simp only [pickOps_cons, pickOps_nil, pick1_zero, pick1_succ]
            repeat (go_big_quiet_step ((fail)))
            exact wpQuiet_nil hA.out.symm
          refine wpFlowX_one 16 (by decide +kernel) (by kernel_rfl) (by decide +kernel) (by decide +kernel) ?_
          simp only [pickOps_cons, pickOps_nil, pick1_zero, pick1_succ]
          intro δf
          go_wp2_with (fail)
          refine ⟨(by first | assumption | (simp only [grow_grow, Array.append_assoc]; assumption) | exact Grew.refl _ | (simp only [grow_grow, Array.append_assoc]; exact (by repeat (first | with_reducible exact Grew.refl _ | with_reducible apply Grew.alloc | with_reducible apply Grew.grow | with_reducible apply Grew.drew | with_reducible apply Grew.drewN))) | exact (by repeat (first | with_reducible exact Grew.refl _ | with_reducible apply Grew.alloc | with_reducible apply Grew.grow | with_reducible apply Grew.drew | with_reducible apply Grew.drewN))), ?_⟩
          refine wpFlowX_esc 17 (by decide +kernel) (by kernel_rfl) (by decide +kernel) (by decide +kernel) ?_
          simp only [pickOps_cons, pickOps_nil, pick1_zero, pick1_succ]
          intro δf
          refine wpList_appends rfl _ _ _ rfl _ iw _ 4 under_ws hi hz hsz hby rfl w _ _ _ rfl rfl _ [.int .u32 (u (x3 + (rr 7 x1 ^^^ rr 18 x1 ^^^ x1 >>> 3) + x4 + (rr 17 x2 ^^^ rr 19 x2 ^^^ x2 >>> 10)))] (HG.out.trans (by repeat (first | with_reducible exact Grew.refl _ | with_reducible apply Grew.alloc | with_reducible apply Grew.grow | with_reducible apply Grew.drew | with_reducible apply Grew.drewN))) (HO.out.grew (by repeat (first | with_reducible exact Grew.refl _ | with_reducible apply Grew.alloc | with_reducible apply Grew.grow | with_reducible apply Grew.drew | with_reducible apply Grew.drewN))) ((shows_one_g _ _ _ _ _).grew (by repeat (first | with_reducible exact Grew.refl _ | with_reducible apply Grew.alloc | with_reducible apply Grew.grow | with_reducible apply Grew.drew | with_reducible apply Grew.drewN))) (by simp [Value.oneCell']) (by rw [hsl]; simp only [maxLen, List.length_cons, List.length_nil]; omega) (by rw [hsl]; simp only [List.length_cons, List.length_nil]; omega) ?_
          intro v' w2' ho' hg'
          rw [← HN.out] at ho'
          refine wpList_nil_then ?_
          refine wpAny_one 18 (by decide +kernel) (by kernel_rfl) (by decide +kernel) ?_
          simp only [pickOps_cons, pickOps_nil, pick1_zero, pick1_succ]
          go_wp2_with (fail)
          refine wpAny_end (by decide +kernel) (by kernel_rfl) ?_
          go_wp2
          refine ⟨?_, ?_⟩
          · iterate 66 apply Exists.intro
            refine And.intro ?_ rfl
            exact ⟨k + 1, by omega, by omega, by go_num, ho', hg'⟩
          · show 64 - (intOf (.int .i64 ((k : Int) + 1))).toNat < 64 - (intOf (.int .i64 (k : Int))).toNat
            simp only [intOf]; omega
        · obtain rfl : k = 64 := by omega
          go_wp2
          go_ret
          exact ⟨_, rfl, HO.out, HG.out⟩
end Go.Proofs.Ytommbfgagalckaa
/- The document's rounds. -/
namespace Go.Proofs.Ytommbfgagalckaa
set_option linter.unusedVariables false
set_option linter.unusedSimpArgs false
open Go.RowKit
set_option maxRecDepth 100000
theorem not_u (x : BitVec 32) : (4294967295 : Int) - u x = u (~~~ x) := by
  unfold u
  rw [BitVec.toNat_not]
  have := x.isLt
  omega
theorem maj_or (a b c : BitVec 32) : (a &&& b ||| a &&& c ||| b &&& c) = (a &&& b ^^^ a &&& c ^^^ b &&& c) := by
  apply BitVec.eq_of_getLsbD_eq
  intro i _
  simp only [BitVec.getLsbD_or, BitVec.getLsbD_and, BitVec.getLsbD_xor]
  cases a.getLsbD i <;> cases b.getLsbD i <;> cases c.getLsbD i <;> rfl
/-- The words, to 'k' of which what was is added. -/
def addk (s v : List (BitVec 32)) (k : Nat) : List (BitVec 32) := (List.range 8).map fun i => if i < k then wordAt s i + wordAt v i else wordAt v i
theorem addk_len (s v : List (BitVec 32)) (k : Nat) : (addk s v k).length = 8 := by simp [addk]
theorem addk_0 (s v : List (BitVec 32)) (h : v.length = 8) : addk s v 0 = v := by
  apply List.ext_getElem
  · simp [addk, h]
  · intro i h1 h2
    simp only [addk, List.getElem_map, List.getElem_range, if_neg (Nat.not_lt_zero i), wordAt_eq v i h2]
theorem addk_at (s v : List (BitVec 32)) (k : Nat) (h : k < 8) : wordAt (addk s v k) k = wordAt v k := by
  rw [wordAt_eq _ _ (by rw [addk_len]; exact h)]
  simp [addk]
theorem addk_set (s v : List (BitVec 32)) (k : Nat) : (addk s v k).set k (wordAt v k + wordAt s k) = addk s v (k + 1) := by
  apply List.ext_getElem
  · simp [addk]
  · intro i h1 h2
    simp only [addk, List.getElem_set, List.getElem_map, List.getElem_range]
    split
    · subst_vars; rw [if_pos (by omega), BitVec.add_comm]
    · split
      · rw [if_pos (by omega)]
      · rw [if_neg (by omega)]
theorem addk_8 (s : List (BitVec 32)) (l : List Nat) : addk s (rnds s (sched l 64) 64) 8 = compress s l := by
  unfold addk compress
  apply List.map_congr_left
  intro i hi
  rw [if_pos (by simpa using hi)]
theorem rnumbers_w (w : World) : Calls Try.prog 87 #[] w fun e w' => ∃ g, e = .returned (.slice (some ⟨g, 0, none⟩) 64 64) ∧ g < w'.heap.size ∧ (∀ j, j < 64 → w'.cell? ⟨g, j, none⟩ = some (.int .u32 (u (wordAt ks j)))) ∧ Grew w w' := by
  go_enter Try.func87, Try.ntmps87
  go_wp2
  go_ret
  refine ⟨w.heap.size, rfl, by simp, fun j hj => ?_, (by repeat (first | with_reducible exact Grew.refl _ | with_reducible apply Grew.alloc | with_reducible apply Grew.grow | with_reducible apply Grew.drew | with_reducible apply Grew.drewN))⟩
  have h := own_alloc w w.heap.size 27 (wsl ks) (Nat.le_refl _) (by rw [wsl_len, ks_len]; decide)
  have h2 := own_cell h j (by rw [wsl_len, ks_len]; exact hj)
  rw [wsl_at] at h2
  exact h2
theorem txr (v : List (BitVec 32)) (k w : BitVec 32) : wordAt v 7 + (rr 6 (wordAt v 4) ^^^ rr 11 (wordAt v 4) ^^^ rr 25 (wordAt v 4)) + (wordAt v 4 &&& wordAt v 5 ^^^ ~~~ wordAt v 4 &&& wordAt v 6) + k + w = tx v k w := rfl
theorem tyr (v : List (BitVec 32)) : (rr 2 (wordAt v 0) ^^^ rr 13 (wordAt v 0) ^^^ rr 22 (wordAt v 0)) + (wordAt v 0 &&& wordAt v 1 ||| wordAt v 0 &&& wordAt v 2 ||| wordAt v 1 &&& wordAt v 2) = ty v := by rw [maj_or]; rfl
set_option maxRecDepth 100000 in
set_option maxHeartbeats 6400000 in
theorem rrounds_w (s W : List (BitVec 32)) (hs : s.length = 8) (hW : W.length = 64) (gs gw cs cw : Nat) (w : World) (h1 : ∀ j, j < 8 → w.cell? ⟨gs, j, none⟩ = some (.int .u32 (u (wordAt s j)))) (h2 : ∀ j, j < 64 → w.cell? ⟨gw, j, none⟩ = some (.int .u32 (u (wordAt W j)))) :
    Calls Try.prog 83 #[.slice (some ⟨gs, 0, none⟩) 8 cs, .slice (some ⟨gw, 0, none⟩) 64 cw] w fun e w' => ∃ v, e = .returned v ∧ OwnR w' w.heap.size 27 v (wsl (addk s (rnds s W 64) 8)) ∧ Grew w w' := by
  obtain ⟨iw, hi, hz, hsz, hby⟩ := info_w
  have l1 : gs < w.heap.size := World.block_lt_of_cell? w _ (h1 0 (by omega))
  have l2 : gw < w.heap.size := World.block_lt_of_cell? w _ (h2 0 (by omega))
  have H1 := Lib.hid h1
  have H2 := Lib.hid h2
  have hsh : Shows w (.slice (some ⟨gs, 0, none⟩) 8 cs) (wsl s) := by
    have : Shows w (.slice (some ⟨gs, 0, none⟩) (wsl s).length cs) (wsl s) := .inl ⟨gs, 0, cs, rfl, l1, fun j x hj => by
      have hj2 : j < s.length := by have := (List.getElem?_eq_some_iff.1 hj).1; rwa [wsl_len] at this
      rw [Nat.zero_add, h1 j (by omega), ← wsl_get s j hj2, hj]⟩
    rwa [wsl_len, hs] at this
  have HSH := Lib.hid hsh
  clear h1 h2 hsh
  go_enter Try.func83, Try.ntmps83
  go_wp2_with (first
    | (go_at_call 87; refine (rnumbers_w _).mono ?_; rintro e wk ⟨gk, rfl, hgk, hkc, hgr⟩)
    | (at_builtin; refine stop_of ?_))
  unfold Stop
  refine wpList_appends rfl _ _ _ rfl _ iw _ 4 under_ws hi hz hsz hby rfl wk _ _ _ rfl rfl [] (wsl s) (Grew.refl _) (by exact OwnR.nil _ _ _) (by exact HSH.out.grew hgr) (wsl_one s) (by rw [wsl_len, hs]; decide) (by rw [wsl_len, hs]; decide) ?_
  intro v0 w1 ho0 hg0
  rw [List.nil_append] at ho0
  have hg1 := hgr.trans hg0
  have HO := Lib.hid (ho0.base (base' := w.heap.size) hgr.size)
  have HG := Lib.hid hg1
  have HGK := Lib.hid (fun j hj => hg0.cell (hkc j hj))
  have HW1 := Lib.hid (fun j hj => hg1.cell (H2.out j hj))
  have HS1 := Lib.hid (fun j hj => hg1.cell (H1.out j hj))
  have z1 : w.heap.size ≤ w1.heap.size := hg1.size
  have z2 : gk < w1.heap.size := Nat.lt_of_lt_of_le hgk hg0.size
  have z3 : gw < w1.heap.size := by omega
  have z4 : gs < w1.heap.size := by omega
  clear ho0 hg0 hg1 hgr hkc hgk H2 HSH l2
  go_wp2
  go_loopw [7, 6] (fun n v wr => ∃ k : Nat, k ≤ 64 ∧ n = .int .i64 k ∧ OwnR wr w.heap.size 27 v (wsl (rnds s W k)) ∧ Grew w1 wr) (fun n _ _ => 64 - (intOf n).toNat)
  case atStart => exact ⟨0, by omega, rfl, HO.out, Grew.refl _⟩
  case round =>
    obtain ⟨k, hk, rfl, ho, hg⟩ := hrel
    have hrl := rnds_len s W hs k
    obtain ⟨g, cap, hv, hgb, hgs, hgc, hgm, hcell⟩ := own_form ho (by rw [wsl_len, hrl]; omega)
    rw [wsl_len, hrl] at hv hgc hcell
    have HO2 := Lib.hid ho
    have HG2 := Lib.hid hg
    have z5 := hg.size
    clear ho hg
    by_cases hn : k < 64
    · have hlt : (k : Int) < 64 := by omega
      subst hv
      have ck := HG2.out.cell (HGK.out k hn)
      have cw := HG2.out.cell (HW1.out k hn)
      have c0 := hcell 0 (by omega)
      have c1 := hcell 1 (by omega)
      have c2 := hcell 2 (by omega)
      have c3 := hcell 3 (by omega)
      have c4 := hcell 4 (by omega)
      have c5 := hcell 5 (by omega)
      have c6 := hcell 6 (by omega)
      have c7 := hcell 7 (by omega)
      rw [wsl_get _ _ (by rw [hrl]; omega)] at c0 c1 c2 c3 c4 c5 c6 c7
      have hfold : wsl (rnds s W (k + 1)) = [.int .u32 (u (tx (rnds s W k) (wordAt ks k) (wordAt W k) + ty (rnds s W k))), .int .u32 (u (wordAt (rnds s W k) 0)), .int .u32 (u (wordAt (rnds s W k) 1)), .int .u32 (u (wordAt (rnds s W k) 2)), .int .u32 (u (wordAt (rnds s W k) 3 + tx (rnds s W k) (wordAt ks k) (wordAt W k))), .int .u32 (u (wordAt (rnds s W k) 4)), .int .u32 (u (wordAt (rnds s W k) 5)), .int .u32 (u (wordAt (rnds s W k) 6))] := rfl
      rw [← tyr, ← txr, ← BitVec.add_assoc] at hfold
      obtain ⟨kk, hkk⟩ : ∃ x, wordAt ks k = x := ⟨_, rfl⟩
      obtain ⟨ww, hww⟩ : ∃ x, wordAt W k = x := ⟨_, rfl⟩
      obtain ⟨v0, hv0⟩ : ∃ x, wordAt (rnds s W k) 0 = x := ⟨_, rfl⟩
      obtain ⟨v1, hv1⟩ : ∃ x, wordAt (rnds s W k) 1 = x := ⟨_, rfl⟩
      obtain ⟨v2, hv2⟩ : ∃ x, wordAt (rnds s W k) 2 = x := ⟨_, rfl⟩
      obtain ⟨v3, hv3⟩ : ∃ x, wordAt (rnds s W k) 3 = x := ⟨_, rfl⟩
      obtain ⟨v4, hv4⟩ : ∃ x, wordAt (rnds s W k) 4 = x := ⟨_, rfl⟩
      obtain ⟨v5, hv5⟩ : ∃ x, wordAt (rnds s W k) 5 = x := ⟨_, rfl⟩
      obtain ⟨v6, hv6⟩ : ∃ x, wordAt (rnds s W k) 6 = x := ⟨_, rfl⟩
      obtain ⟨v7, hv7⟩ : ∃ x, wordAt (rnds s W k) 7 = x := ⟨_, rfl⟩
      simp only [hkk, hww, hv0, hv1, hv2, hv3, hv4, hv5, hv6, hv7] at c0 c1 c2 c3 c4 c5 c6 c7 ck cw hfold
      have HF := Lib.hid hfold
      have hnot := not_u v4
      have y1 : gk < wr.heap.size := by omega
      have y2 : gw < wr.heap.size := by omega
      clear hkk hww hv0 hv1 hv2 hv3 hv4 hv5 hv6 hv7 hfold hcell hk hn hrl
      go_wp2
      first | refine wp_region_pure_lit_g (by kernel_rfl) (by kernel_rfl) ?_ | refine wp_region_pure_lit (by kernel_rfl) (by kernel_rfl) ?_
      repeat (go_big_quiet_step ((go_at_call 88; exact Calls.pure_of (rturn_i _ _ (by decide) _))))
      refine wpQuiet_nil ?_
      intro _ hw'
      obtain ⟨δ1, hw''⟩ := hw'
      subst hw''
      go_wp2
      first | refine wp_region_pure_lit_g (by kernel_rfl) (by kernel_rfl) ?_ | refine wp_region_pure_lit (by kernel_rfl) (by kernel_rfl) ?_
      repeat (go_big_quiet_step ((fail)))
      refine wpQuiet_nil ?_
      intro _ hw'
      obtain ⟨δ1, hw''⟩ := hw'
      subst hw''
      go_wp2
      first | refine wp_region_pure_lit_g (by kernel_rfl) (by kernel_rfl) ?_ | refine wp_region_pure_lit (by kernel_rfl) (by kernel_rfl) ?_
      repeat (go_big_quiet_step ((fail)))
      refine wpQuiet_nil ?_
      intro _ hw'
      obtain ⟨δ1, hw''⟩ := hw'
      subst hw''
      go_wp2
      first | refine wp_region_pure_lit_g (by kernel_rfl) (by kernel_rfl) ?_ | refine wp_region_pure_lit (by kernel_rfl) (by kernel_rfl) ?_
      repeat (go_big_quiet_step ((go_at_call 88; exact Calls.pure_of (rturn_i _ _ (by decide) _))))
      refine wpQuiet_nil ?_
      intro _ hw'
      obtain ⟨δ1, hw''⟩ := hw'
      subst hw''
      go_wp2
      first | refine wp_region_pure_lit_g (by kernel_rfl) (by kernel_rfl) ?_ | refine wp_region_pure_lit (by kernel_rfl) (by kernel_rfl) ?_
      repeat (go_big_quiet_step ((fail)))
      refine wpQuiet_nil ?_
      intro _ hw'
      obtain ⟨δ1, hw''⟩ := hw'
      subst hw''
      go_wp2
      refine wp_region_flow (by kernel_rfl) ?_
      intro δf
      apply wpFlow_quiets [0,1,2,3,4,5,6,7,8,9,10,11,12,13,14,15,16,17,18,19,20,21,22,23,24,25,26,27] (by decide +kernel) (by decide +kernel) (by kernel_rfl) (by intro _ _ _ d _ h; cases d <;> exact h) _
      · intro A hA δ'
        simp only [pickOps_cons, pickOps_nil, pick1_zero, pick1_succ]
        repeat (go_big_quiet_step ((fail)))
        exact wpQuiet_nil hA.out.symm
      refine wpFlow_one 28 (by decide +kernel) (by kernel_rfl) (by kernel_rfl) ?_
      refine wpFlowS_intro ?_
      simp only [pickOps_cons, pickOps_nil, pick1_zero, pick1_succ]
      intro δf
      go_wp2_with (fail)
      refine ⟨(by first | assumption | (simp only [grow_grow, Array.append_assoc]; assumption) | exact Grew.refl _ | (simp only [grow_grow, Array.append_assoc]; exact (by repeat (first | with_reducible exact Grew.refl _ | with_reducible apply Grew.alloc | with_reducible apply Grew.grow | with_reducible apply Grew.drew | with_reducible apply Grew.drewN))) | exact (by repeat (first | with_reducible exact Grew.refl _ | with_reducible apply Grew.alloc | with_reducible apply Grew.grow | with_reducible apply Grew.drew | with_reducible apply Grew.drewN))), ?_⟩
      refine wpFlow_one 29 (by decide +kernel) (by kernel_rfl) (by kernel_rfl) ?_
      refine wpFlowS_intro ?_
      simp only [pickOps_cons, pickOps_nil, pick1_zero, pick1_succ]
      intro δf
      go_wp2_with (fail)
      refine ⟨(by first | assumption | (simp only [grow_grow, Array.append_assoc]; assumption) | exact Grew.refl _ | (simp only [grow_grow, Array.append_assoc]; exact (by repeat (first | with_reducible exact Grew.refl _ | with_reducible apply Grew.alloc | with_reducible apply Grew.grow | with_reducible apply Grew.drew | with_reducible apply Grew.drewN))) | exact (by repeat (first | with_reducible exact Grew.refl _ | with_reducible apply Grew.alloc | with_reducible apply Grew.grow | with_reducible apply Grew.drew | with_reducible apply Grew.drewN))), ?_⟩
      refine wpFlow_end (by decide +kernel) (by kernel_rfl) ?_
      intro δf
      go_wp2
      refine ⟨⟨k + 1, by omega, by go_num, ?_, HG2.out.trans (by repeat (first | with_reducible exact Grew.refl _ | with_reducible apply Grew.alloc | with_reducible apply Grew.grow | with_reducible apply Grew.drew | with_reducible apply Grew.drewN))⟩, by simp only [intOf]; omega⟩
      rw [HF.out]
      exact (own_alloc_g _ _ _ _ [_, _, _, _, _, _, _, _] (by omega) (by simp only [List.length_cons, List.length_nil, maxLen]; omega)).grew ⟨_, rfl⟩
    · obtain rfl : k = 64 := by omega
      obtain ⟨V, hV⟩ : ∃ V, rnds s W 64 = V := ⟨_, rfl⟩
      rw [hV] at HO2 hrl hcell
      have HV := Lib.hid hV
      have HGW := Lib.hid (HG.out.trans HG2.out)
      subst hv
      clear hV hcell hk hn HGK HW1 HO HS1
      go_wp2
      go_loopw [13] (fun n wr2 => ∃ k : Nat, k ≤ 8 ∧ n = .int .i64 k ∧ OwnR wr2 w.heap.size 27 (.slice (some ⟨g, 0, none⟩) 8 cap) (wsl (addk s V k)) ∧ Grew w wr2) (fun n _ => 8 - (intOf n).toNat)
      case atStart => exact ⟨0, by omega, rfl, by rw [addk_0 s V hrl]; exact HO2.out, HGW.out⟩
      case round =>
        obtain ⟨m, hm, rfl, ho3, hg3⟩ := hrel
        have hal := addk_len s V m
        have HO3 := Lib.hid ho3
        have HG3 := Lib.hid hg3
        have z6 := hg3.size
        clear ho3 hg3 z5 HO2 HGW
        by_cases hm8 : m < 8
        · have hlt : (m : Int) < 8 := by omega
          have ca := own_cell HO3.out m (by rw [wsl_len, hal]; exact hm8)
          rw [wsl_at, addk_at s V m hm8] at ca
          have cs' := HG3.out.cell (H1.out m hm8)
          have hfz := own_frozen HO3.out m
          have hgl : g < wr.heap.size := (HO3.out.block g rfl).2
          have y4 : gs < wr.heap.size := by omega
          have hset : (wsl (addk s V m)).set m (.int .u32 (u (wordAt V m + wordAt s m))) = wsl (addk s V (m + 1)) := by
            rw [← addk_set]; unfold wsl; rw [List.map_set]
          obtain ⟨x, hx⟩ : ∃ x, wordAt V m = x := ⟨_, rfl⟩
          obtain ⟨y, hy⟩ : ∃ y, wordAt s m = y := ⟨_, rfl⟩
          rw [hx] at ca
          rw [hy] at cs'
          rw [hx, hy] at hset
          have HSET := Lib.hid hset
          clear hset hx hy hm hm8 hal
          go_wp2
          first | refine wp_region_pure_tail_g 12 (by kernel_rfl) (by kernel_rfl) (by intro _ _ _ d _ h; cases d <;> exact h) ?_ | refine wp_region_pure_tail 12 (by kernel_rfl) (by kernel_rfl) (by intro _ _ _ d _ h; cases d <;> exact h) ?_
          simp only [List.take_succ_cons, List.take_zero, List.drop_succ_cons, List.drop_zero]
          repeat (go_big_quiet_step ((fail)))
          refine wpQuiet_nil ?_
          intro _ hw'
          obtain ⟨δ1, hw''⟩ := hw'
          subst hw''
          go_wp2
          have hst := own_stored (HO3.out.grew (w' := wr.grow δ1) ⟨_, rfl⟩) m (.int .u32 (u (x + y)))
          rw [HSET.out] at hst
          have hst' : OwnR ((wr.setCell ⟨g, m, none⟩ (.int .u32 (u (x + y)))).grow δ1) w.heap.size 27 (.slice (some ⟨g, 0, none⟩) 8 cap) (wsl (addk s V (m + 1))) ∧ (wr.grow δ1).grownBy ((wr.setCell ⟨g, m, none⟩ (.int .u32 (u (x + y)))).grow δ1) (some g) := by
            rw [← setCell_grow_old _ _ _ _ _ _ hgl]; exact hst
          exact ⟨⟨m + 1, by omega, by go_num, hst'.1, (HG3.out.grow δ1).grown hst'.2 fun j hj => (by cases hj; exact hgb)⟩, by simp only [intOf]; omega⟩
        · obtain rfl : m = 8 := by omega
          go_wp2
          go_ret
          exact ⟨_, rfl, by rw [HV.out]; exact HO3.out, HG3.out⟩
end Go.Proofs.Ytommbfgagalckaa
/- The document's Pad. -/
namespace Go.Proofs.Ytommbfgagalckaa
set_option linter.unusedVariables false
set_option linter.unusedSimpArgs false
open Go.RowKit
set_option maxRecDepth 100000
def lenV : Value → Nat
  | .slice _ n _ => n
  | _ => 0
theorem own_len {w : World} {base : Nat} {e : TypeId} {v : Value} {xs : List Value} (h : OwnR w base e v xs) : ∃ p c, v = .slice p xs.length c := shows_form h.shows
theorem tail_take (n k : Nat) (h : k < 8) : (tailk n 8).take (k + 1) = (tailk n 8).take k ++ [n / (72057594037927936 / 256 ^ k) % 256] := by
  rw [tailk_8]
  match k, h with
  | 0, _ => rfl
  | 1, _ => rfl
  | 2, _ => rfl
  | 3, _ => rfl
  | 4, _ => rfl
  | 5, _ => rfl
  | 6, _ => rfl
  | 7, _ => rfl
set_option maxRecDepth 100000 in
set_option maxHeartbeats 3200000 in
theorem rpad_w (l : List Nat) (v : Value) (w : World) (hl : l.length ≤ 1073741824) (hv : Shows w v (bys l)) :
    Calls Try.prog 81 #[v] w fun e w' => ∃ v', e = .returned v' ∧ OwnR w' w.heap.size 5 v' (bys (pad l)) ∧ Grew w w' := by
  obtain ⟨ib, hi, hz, hsz, hby⟩ := info_b
  obtain ⟨p, c, rfl⟩ := shows_form hv
  rw [bys_len] at hv ⊢
  have HV := Lib.hid hv
  clear hv
  have hpz := padz_lt l
  go_enter Try.func81, Try.ntmps81
  go_wp2_with (at_builtin; refine stop_of ?_)
  unfold Stop
  refine wpList_appends rfl _ _ _ rfl _ ib _ 1 under_bs hi hz hsz hby rfl w _ _ _ rfl rfl [] (bys l) (Grew.refl _) (by exact OwnR.nil _ _ _) (by exact HV.out) (bys_one l) (by rw [bys_len]; simp only [maxLen, List.length_nil]; omega) (by rw [bys_len]; simp only [List.length_nil]; omega) ?_
  intro v0 w1 ho0 hg0
  rw [List.nil_append] at ho0
  have HO := Lib.hid ho0
  have HG := Lib.hid hg0
  clear ho0 hg0
  go_wp2_with (at_builtin; refine stop_of ?_)
  unfold Stop
  refine wpList_append1 rfl _ _ _ rfl _ ib _ 1 under_bs hi hz hsz hby rfl w w1 _ _ rfl rfl (bys l) HG.out (by exact HO.out) rfl (by rw [bys_len]; simp only [maxLen]; omega) (by rw [bys_len]; omega) ?_
  intro v1 w2 ho1 hg1
  have HO1 := Lib.hid (show OwnR w2 w.heap.size 5 v1 (bys (l ++ 128 :: zeros 0)) by rw [bys_append]; exact ho1)
  have HG1 := Lib.hid hg1
  clear ho1 hg1 HO HG
  go_wp2
  go_loopw [3] (fun v wr => ∃ k : Nat, k ≤ padz l ∧ OwnR wr w.heap.size 5 v (bys (l ++ 128 :: zeros k)) ∧ Grew w wr) (fun v _ => l.length + 100 - lenV v)
  case atStart => exact ⟨0, by omega, HO1.out, HG1.out⟩
  case round =>
    clear HO1 HG1
    obtain ⟨k, hk, ho, hg⟩ := hrel
    have hlen : (bys (l ++ 128 :: zeros k)).length = l.length + 1 + k := by rw [bys_len]; simp [zeros_len]; omega
    obtain ⟨q, c', hv'⟩ := own_len ho
    rw [hlen] at hv'
    subst hv'
    have HO := Lib.hid ho
    have HG := Lib.hid hg
    clear ho hg
    obtain ⟨L, hL⟩ : ∃ L, l.length + 1 + k = L := ⟨_, rfl⟩
    rw [hL] at HO hlen ⊢
    by_cases hn : (L : Int) % 64 = 56
    · have hkk : k = padz l := by unfold padz at hk ⊢; omega
      have hn2 : (l.length : Int) ≤ 1073741824 := by omega
      have hLb : (L : Int) ≤ 2000000000 := by omega
      have HK := Lib.hid hkk
      have HL := Lib.hid hL
      clear hk hkk hL
      go_wp2
      clear hn hlen
      go_loopw [6, 3, 5] (fun i v y wr => ∃ k : Nat, k ≤ 8 ∧ i = .int .i64 k ∧ y = .int .u64 ((72057594037927936 / 256 ^ k : Nat) : Int) ∧ OwnR wr w.heap.size 5 v (bys ((l ++ 128 :: zeros (padz l)) ++ (tailk (8 * l.length) 8).take k)) ∧ Grew w wr) (fun i _ _ _ => 8 - (intOf i).toNat)
      case atStart => exact ⟨0, by omega, rfl, rfl, by rw [List.take_zero, List.append_nil, ← HK.out]; exact HO.out, HG.out⟩
      case round =>
        clear HO HG
        obtain ⟨m, hm, rfl, rfl, ho, hg⟩ := hrel
        have HO := Lib.hid ho
        have HG := Lib.hid hg
        clear ho hg
        by_cases hm8 : m < 8
        · have hlt : (m : Int) < 8 := by omega
          have ht := tail_take (8 * l.length) m hm8
          have hb1 : 1 ≤ 72057594037927936 / 256 ^ m := by
            match m, hm8 with
            | 0, _ => decide
            | 1, _ => decide
            | 2, _ => decide
            | 3, _ => decide
            | 4, _ => decide
            | 5, _ => decide
            | 6, _ => decide
            | 7, _ => decide
          have hb2 : 72057594037927936 / 256 ^ (m + 1) = 72057594037927936 / 256 ^ m / 256 := by rw [Nat.pow_succ, Nat.div_div_eq_div_mul]
          have hb3 : 72057594037927936 / 256 ^ m ≤ 72057594037927936 := Nat.div_le_self _ _
          obtain ⟨B, hB⟩ : ∃ B, 72057594037927936 / 256 ^ m = B := ⟨_, rfl⟩
          obtain ⟨B', hB'⟩ : ∃ B, 72057594037927936 / 256 ^ (m + 1) = B := ⟨_, rfl⟩
          rw [hB] at hb1 hb2 hb3 ht ⊢
          rw [hB'] at hb2
          have HB' := Lib.hid hB'
          have hlen2 : (bys ((l ++ 128 :: zeros (padz l)) ++ (tailk (8 * l.length) 8).take m)).length = l.length + 1 + padz l + m := by
            rw [bys_len]; simp [zeros_len, tailk_len]; omega
          have hnext : bys ((l ++ 128 :: zeros (padz l)) ++ (tailk (8 * l.length) 8).take (m + 1)) = bys ((l ++ 128 :: zeros (padz l)) ++ (tailk (8 * l.length) 8).take m) ++ [.int .u8 ((8 * l.length / B % 256 : Nat) : Int)] := by
            rw [ht, ← List.append_assoc, bys_append]; rfl
          have HN := Lib.hid hnext
          have hb4 : 1 ≤ (B : Int) := by omega
          have hb5 : (B : Int) ≠ 0 := by omega
          have hb6 : (B : Int) ≤ 72057594037927936 := by omega
          have hd1 : (8 * (l.length : Int)) / (B : Int) = ((8 * l.length / B : Nat) : Int) := by rw [Int.natCast_ediv]; rfl
          have hd2 : ((8 * l.length / B : Nat) : Int) % 256 = ((8 * l.length / B % 256 : Nat) : Int) := by rw [Int.natCast_emod]; rfl
          have hd3 : (B : Int) / 256 = (B' : Int) := by rw [hb2]; rfl
          have hd4 : 8 * l.length / B % 256 < 256 := Nat.mod_lt _ (by omega)
          have hd5 : 8 * l.length / B ≤ 8 * l.length := Nat.div_le_self _ _
          obtain ⟨Y, hY⟩ : ∃ Y, 8 * l.length / B % 256 = Y := ⟨_, rfl⟩
          rw [hY] at hd2 hd4 HN
          obtain ⟨X, hX⟩ : ∃ X, 8 * l.length / B = X := ⟨_, rfl⟩
          rw [hX] at hd1 hd2 hd5
          have hd6 : (X : Int) ≤ 18446744073709551615 := by omega
          clear hB hB' ht hnext hb1 hb2 hb3 hY hX hm hm8
          go_wp2_with (at_builtin; refine stop_of ?_)
          unfold Stop
          refine wpList_append1 rfl _ _ _ rfl _ ib _ 1 under_bs hi hz hsz hby rfl w wr _ _ rfl rfl _ HG.out (by exact HO.out) rfl (by rw [hlen2]; simp only [maxLen]; omega) (by rw [hlen2]; omega) ?_
          intro v2 w3 ho2 hg2
          have ho3 := HN.out ▸ ho2
          go_wp2
          exact ⟨⟨m + 1, by omega, by go_num, by rw [HB'.out], ho3, hg2⟩, by simp only [intOf]; omega⟩
        · obtain rfl : m = 8 := by omega
          go_wp2
          go_ret
          refine ⟨_, rfl, ?_, HG.out⟩
          have h8 : (tailk (8 * l.length) 8).take 8 = tailk (8 * l.length) 8 := List.take_of_length_le (by rw [tailk_len]; omega)
          have := HO.out
          rw [h8, List.append_assoc, List.cons_append] at this
          exact this
    · have hlt : k < padz l := by unfold padz at hk ⊢; omega
      have hne : ¬ ((L : Int) % 64 = 56) := hn
      have HLL := Lib.hid hL
      clear hk hL
      go_wp2_with (at_builtin; refine stop_of ?_)
      unfold Stop
      refine wpList_append1 rfl _ _ _ rfl _ ib _ 1 under_bs hi hz hsz hby rfl w wr _ _ rfl rfl _ HG.out (by exact HO.out) rfl (by rw [hlen]; simp only [maxLen]; have := HLL.out; omega) (by rw [hlen]; have := HLL.out; omega) ?_
      intro v2 w3 ho2 hg2
      obtain ⟨q2, c2, hv2⟩ := own_len ho2
      have hlen3 : (bys (l ++ 128 :: zeros k) ++ [Value.int .u8 0]).length = L + 1 := by rw [List.length_append, hlen]; rfl
      rw [hlen3] at hv2
      subst hv2
      go_wp2
      exact ⟨⟨k + 1, by omega, by rw [zeros_succ, show l ++ 128 :: (zeros k ++ [0]) = (l ++ 128 :: zeros k) ++ [0] by simp, bys_append]; exact ho2, hg2⟩, by simp only [lenV]; have := HLL.out; omega⟩
end Go.Proofs.Ytommbfgagalckaa
/- The document's Sum. -/
namespace Go.Proofs.Ytommbfgagalckaa
set_option linter.unusedVariables false
set_option linter.unusedSimpArgs false
open Go.RowKit
theorem rfirst_w (w : World) : Calls Try.prog 82 #[] w fun e w' => ∃ g, e = .returned (.slice (some ⟨g, 0, none⟩) 8 8) ∧ (∀ j, j < 8 → w'.cell? ⟨g, j, none⟩ = some (.int .u32 (u (wordAt words0 j)))) ∧ Grew w w' := by
  go_enter Try.func82, Try.ntmps82
  go_wp2
  go_ret
  refine ⟨w.heap.size, rfl, fun j hj => ?_, (by repeat (first | with_reducible exact Grew.refl _ | with_reducible apply Grew.alloc | with_reducible apply Grew.grow | with_reducible apply Grew.drew | with_reducible apply Grew.drewN))⟩
  have h := own_alloc w w.heap.size 27 (wsl words0) (Nat.le_refl _) (by decide)
  have h2 := own_cell h j (by rw [wsl_len]; exact hj)
  rw [wsl_at] at h2
  exact h2
theorem rpad_o (l : List Nat) (v : Value) (w : World) (hl : l.length ≤ 1073741824) (hv : Shows w v (bys l)) :
    Calls Try.prog 81 #[v] w fun e w' => ∃ b cap N, e = .returned (.slice (some ⟨b, 0, none⟩) N cap) ∧ (N = (pad l).length ∧ N ≤ cap) ∧ cap ≤ maxLen ∧ b < w'.heap.size ∧
      (∀ j, j < N → w'.cell? ⟨b, j, none⟩ = some (.int .u8 (byteAt (pad l) j : Nat))) ∧ Grew w w' := by
  refine (rpad_w l v w hl hv).mono ?_
  rintro e w' ⟨v', rfl, ho, hg⟩
  have hp := pad_len l
  obtain ⟨g, cap, rfl, _, hgs, hgc, hgm, hcell⟩ := own_form ho (by rw [bys_len]; omega)
  rw [bys_len] at hgc hcell ⊢
  refine ⟨g, cap, _, rfl, ⟨rfl, hgc⟩, hgm, hgs, fun j hj => ?_, hg⟩
  rw [hcell j hj, ← byteAt_eq' (pad l) j hj]
set_option maxRecDepth 100000 in
set_option maxHeartbeats 6400000 in
theorem rsum_w (l : List Nat) (v : Value) (w : World) (hl : l.length ≤ 1073741824) (hb : ∀ c ∈ l, c < 256) (hv : Shows w v (bys l)) :
    Calls Try.prog 70 #[v] w fun e w' => e = .returned (.agg (iv (sum l))) ∧ Grew w w' := by
  have HV := Lib.hid hv
  clear hv
  go_enter Try.func70, Try.ntmps70
  go_wp2_with (go_at_call 81; refine (rpad_o l v _ hl (HV.out.grew (by repeat (first | with_reducible exact Grew.refl _ | with_reducible apply Grew.alloc | with_reducible apply Grew.grow | with_reducible apply Grew.drew | with_reducible apply Grew.drewN)))).mono ?_; rintro e w2 ⟨b, cap, N, rfl, hK, hcap, hb2, hcs, hg2⟩; have HK := Lib.hid hK; clear hK; refine stop_of ?_)
  unfold Stop
  have HCS := Lib.hid hcs
  have HG2 := Lib.hid (show Grew (w.alloc (.cells (iv id0) 23)) w2 from hg2)
  clear hcs hg2
  go_wp2_with (go_at_call 82; refine (rfirst_w _).mono ?_; rintro e w3 ⟨g0, rfl, hc3, hg3⟩; refine stop_of ?_)
  unfold Stop
  have hg23 := HG2.out.trans hg3
  have r1 : w3.rowAt w.heap.size = iv id0 := by rw [Grew.rowAt hg23 _ (by simp)]; simp [go_sem]
  have r2 : w3.rowFree w.heap.size = true := by rw [Grew.rowFree hg23 _ (by simp)]; simp [go_sem]
  have HCS3 := Lib.hid (fun j hj => hg3.cell (HCS.out j hj))
  have hgw3 : Grew w w3 := (show Grew w _ from (by repeat (first | with_reducible exact Grew.refl _ | with_reducible apply Grew.alloc | with_reducible apply Grew.grow | with_reducible apply Grew.drew | with_reducible apply Grew.drewN))).trans hg23
  have HG3 := Lib.hid hgw3
  have HC3 := Lib.hid hc3
  have hp := Lib.hid (And.intro (pad_mod l) (pad_len l))
  have z1 : w.heap.size < w3.heap.size := by have := hg23.size; simp at this; omega
  have z2 : b < w3.heap.size := Nat.lt_of_lt_of_le hb2 hg3.size
  clear hc3 hg3 hg23 hgw3 HCS HG2 hb2
  go_wp2
  go_loopw [5, 4] (fun n v wr => ∃ (k i g c : Nat), i = 64 * k ∧ i ≤ N ∧ n = .int .i64 (i : Nat) ∧ v = .slice (some ⟨g, 0, none⟩) 8 c ∧ (∀ j, j < 8 → wr.cell? ⟨g, j, none⟩ = some (.int .u32 (u (wordAt (sumk (pad l) k) j)))) ∧ Grew w3 wr) (fun n _ _ => N - (intOf n).toNat)
  case atStart => exact ⟨0, 0, g0, 8, rfl, by omega, rfl, rfl, HC3.out, Grew.refl _⟩
  case round =>
    obtain ⟨k, i, g, c, hik, hiN, rfl, rfl, hcells, hgr⟩ := hrel
    have HC := Lib.hid hcells
    have HG := Lib.hid hgr
    have HIK := Lib.hid hik
    have z3 := hgr.size
    clear hcells hgr HC3 hik
    by_cases hn : i < N
    · have hlt : (i : Int) < (N : Int) := by omega
      have h64 : i + 64 ≤ N := by have := hp.out; have := HK.out; have := HIK.out; omega
      have h64' : (i : Int) + 64 ≤ (N : Int) := by omega
      have hNb : (N : Int) ≤ 2000000000 := by have := hp.out; have := HK.out; omega
      have hNc : (N : Int) ≤ (cap : Int) := by have := HK.out; omega
      have hic : (i : Int) + 64 ≤ (cap : Int) := by omega
      have hii : (i : Int) ≤ (i : Int) + 64 := by omega
      clear hiN
      go_wp2_with (go_at_call 84; refine stop_of ?_)
      unfold Stop
      have hcw : ∀ j, j < 64 → wr.cell? ⟨b, i + j, none⟩ = some (.int .u8 (byteAt ((pad l).drop i) j : Nat)) := fun j hj => by
        rw [byteAt_drop]; exact HG.out.cell (HCS3.out (i + j) (by omega))
      have hpb : ∀ c ∈ (pad l).drop i, c < 256 := fun c hc => pad_lt l hb c (List.mem_of_mem_drop hc)
      refine (rwords_w ((pad l).drop i) hpb b i (cap - i) wr hcw).mono ?_
      rintro e w4 ⟨vw, rfl, how, hgw⟩
      have hsl64 : (sched ((pad l).drop i) 64).length = 64 := sched_len _ _
      obtain ⟨gw, capw, rfl, _, hgws, _, _, hwcell⟩ := own_form how (by rw [wsl_len, hsl64]; omega)
      rw [wsl_len, hsl64] at hwcell ⊢
      have HWC := Lib.hid (fun j (hj : j < 64) => (hwcell j hj).trans (wsl_get _ j (by rw [hsl64]; exact hj)))
      have HC4 := Lib.hid (fun j hj => hgw.cell (HC.out j hj))
      have HG4 := Lib.hid (HG.out.trans hgw)
      clear hwcell hgw how hcw hpb HC HG z3
      go_wp2_with (go_at_call 83; refine stop_of ?_)
      unfold Stop
      have hskl : (sumk (pad l) k).length = 8 := by rw [← sumOf_range]; exact sumOf_len _ _
      refine (rrounds_w (sumk (pad l) k) (sched ((pad l).drop i) 64) hskl hsl64 g gw c capw w4 HC4.out HWC.out).mono ?_
      rintro e w5 ⟨vr, rfl, hor, hgr⟩
      rw [addk_8] at hor
      have hcl : (compress (sumk (pad l) k) ((pad l).drop i)).length = 8 := compress_len _ _
      obtain ⟨gr, capr, rfl, _, hgrs, _, _, hrcell⟩ := own_form hor (by rw [wsl_len, hcl]; omega)
      rw [wsl_len, hcl] at hrcell ⊢
      have HRC := Lib.hid (fun j (hj : j < 8) => (hrcell j hj).trans (wsl_get _ j (by rw [hcl]; exact hj)))
      have HG5 := Lib.hid (HG4.out.trans hgr)
      clear hrcell hgr hor HC4 HG4 HWC
      go_wp2
      exact ⟨⟨k + 1, i + 64, gr, capr, by have := HIK.out; omega, by omega, by go_num, rfl, (by rw [HIK.out] at HRC; exact HRC.out), HG5.out⟩, by simp only [intOf]; omega⟩
    · obtain rfl : i = N := by omega
      have hsum : sum l = outk (sumk (pad l) k) 32 := by
        have := HK.out.1
        have := HIK.out
        unfold sum
        rw [show (pad l).length / 64 = k by omega]
      have HSUM := Lib.hid hsum
      obtain ⟨S, hS⟩ : ∃ S, sumk (pad l) k = S := ⟨_, rfl⟩
      have hSl : S.length = 8 := by rw [← hS, ← sumOf_range]; exact sumOf_len _ _
      rw [hS] at HC HSUM
      have q1 : wr.rowAt w.heap.size = iv id0 := by rw [Grew.rowAt HG.out _ z1]; exact r1
      have q2 : wr.rowFree w.heap.size = true := by rw [Grew.rowFree HG.out _ z1]; exact r2
      have HGW := Lib.hid (HG3.out.trans HG.out)
      have z4 : w.heap.size < wr.heap.size := by omega
      have z5 : g < wr.heap.size := World.block_lt_of_cell? wr _ (HC.out 0 (by omega))
      clear r1 r2 hp HCS3 HK hiN hn HG HG3 HIK hsum hS z1 z2 z3
      go_wp2
      go_loopw [7] (fun n wr2 => ∃ m : Nat, m ≤ 8 ∧ n = .int .i64 m ∧ wr2 = wr.alloc (.cells (iv (outk S (4 * m))) 23)) (fun n _ => 8 - (intOf n).toNat)
      case atStart => exact ⟨0, by omega, rfl, by rw [Nat.mul_zero, outk_0]⟩
      case round =>
        obtain ⟨m, hm, rfl, rfl⟩ := hrel
        by_cases hm8 : m < 8
        · have hlt : (m : Int) < 8 := by omega
          have hcx := HC.out m hm8
          have hx := u_bd (wordAt S m)
          have ol := outk_len S
          have w0 : wordByte S (4 * m) = (wordAt S m).toNat / 16777216 := by
            unfold wordByte
            rw [show 4 * m / 4 = m by omega, show 24 - 8 * (4 * m % 4) = 24 by omega]
            have := (wordAt S m).isLt
            omega
          have w1 : wordByte S (4 * m + 1) = (wordAt S m).toNat / 65536 % 256 := by
            unfold wordByte
            rw [show (4 * m + 1) / 4 = m by omega, show 24 - 8 * ((4 * m + 1) % 4) = 16 by omega]
          have w2 : wordByte S (4 * m + 2) = (wordAt S m).toNat / 256 % 256 := by
            unfold wordByte
            rw [show (4 * m + 2) / 4 = m by omega, show 24 - 8 * ((4 * m + 2) % 4) = 8 by omega]
          have w3 : wordByte S (4 * m + 3) = (wordAt S m).toNat % 256 := by
            unfold wordByte
            rw [show (4 * m + 3) / 4 = m by omega, show 24 - 8 * ((4 * m + 3) % 4) = 0 by omega, Nat.pow_zero, Nat.div_one]
          have s0 := iv_set' (outk S (4 * m)) (4 * m) (wordByte S (4 * m))
          have s1 := iv_set' (outk S (4 * m + 1)) (4 * m + 1) (wordByte S (4 * m + 1))
          have s2 := iv_set' (outk S (4 * m + 2)) (4 * m + 2) (wordByte S (4 * m + 2))
          have s3 := iv_set' (outk S (4 * m + 3)) (4 * m + 3) (wordByte S (4 * m + 3))
          rw [outk_set] at s0 s1 s2 s3
          have a0 := iv_at (outk S (4 * m)) (4 * m) (by rw [ol]; omega)
          have a1 := iv_at (outk S (4 * m + 1)) (4 * m + 1) (by rw [ol]; omega)
          have a2 := iv_at (outk S (4 * m + 2)) (4 * m + 2) (by rw [ol]; omega)
          have a3 := iv_at (outk S (4 * m + 3)) (4 * m + 3) (by rw [ol]; omega)
          obtain ⟨x, hxx⟩ : ∃ x, wordAt S m = x := ⟨_, rfl⟩
          rw [hxx] at hcx hx w0 w1 w2 w3
          have x1 := hx.1
          have x2 : u x ≤ 4294967295 := by omega
          have e0 : u x / 16777216 = ((wordByte S (4 * m) : Nat) : Int) := by rw [w0]; unfold u; omega
          have e1 : u x / 65536 % 256 = ((wordByte S (4 * m + 1) : Nat) : Int) := by rw [w1]; unfold u; omega
          have e2 : u x / 256 % 256 = ((wordByte S (4 * m + 2) : Nat) : Int) := by rw [w2]; unfold u; omega
          have e3 : u x % 256 = ((wordByte S (4 * m + 3) : Nat) : Int) := by rw [w3]; unfold u; omega
          have y0 := wordByte_lt S (4 * m)
          have y1 := wordByte_lt S (4 * m + 1)
          have y2 := wordByte_lt S (4 * m + 2)
          have y3 := wordByte_lt S (4 * m + 3)
          have i0 : 4 * (m : Int) < 32 := by omega
          have i1 : 4 * (m : Int) + 1 < 32 := by omega
          have i2 : 4 * (m : Int) + 2 < 32 := by omega
          have i3 : 4 * (m : Int) + 3 < 32 := by omega
          clear w0 w1 w2 w3 hxx hx hm hm8
          go_wp2
          exact ⟨⟨m + 1, by omega, by go_num, rfl⟩, by simp only [intOf]; omega⟩
        · obtain rfl : m = 8 := by omega
          have ol := outk_len S 32
          clear hm hm8
          go_wp2
          refine bodyPost_ret (id_result rfl _ rfl (l := outk S 32) ?_ ol) rfl ⟨by rw [HSUM.out], (Grew.setRow_new HGW.out _ _ (Nat.le_refl _)).alloc _⟩
          rw [rowAt_alloc_past _ _ _ (by rw [setRow_size]; exact z4), rowAt_setRow_free _ _ _ q2]
end Go.Proofs.Ytommbfgagalckaa
/- What is handed over reads behind a call as it did, where the call has laid new memory alone. No program's function in sight. -/
namespace Go.Proofs.Ytommbfgagalckaa
set_option linter.unusedVariables false
set_option linter.unusedSimpArgs false
open Go.ChangeShapes Go.WideShapes Go.ChangeAt Go.RowKit
set_option maxRecDepth 100000
theorem laidOut : laidOutB Try.prog = true := by kernel_rfl
theorem trodAll_stays {H : Type} {enc : TypeId × Value → H} {W W' : World} {sp : Nat → Bool} (hg : Grew W W') : ∀ (ts : List TypeId) {vs : List Value} {ds : List (DataW H)} {ps : List MemPlace},
    (∀ t ∈ ts, Try.prog.readableRec t = true ∧ t < Try.prog.types.size) → DataW.TrodAll enc Try.prog W 0 (fun _ => true) true ts vs ds ps → (∀ x ∈ ps, x.block < W.heap.size) → (∀ x ∈ ps, sp x.block = true) →
    DataW.TrodAll enc Try.prog W' 0 sp true ts vs ds ps
  | [], vs, ds, ps, _, h, _, _ => by
    obtain ⟨rfl, rfl, rfl⟩ := trodAll_nil h
    exact trodAll_mk0
  | t :: ts, vs, ds, ps, ht, h, hl, hs => by
    obtain ⟨v, vs', d, ds', p, q, rfl, rfl, rfl, h0, h1⟩ := trodAll_cons h
    have e := ht t (by simp)
    have hb := hg.below
    refine trodAll_cons_mk (WideElems.Trod_stays laidOut e.1 e.2 h0 (fun x hx => hb.same (hl x (by simp [hx]))) (fun x hx => hs x (by simp [hx]))) ?_
    exact trodAll_stays hg ts (fun t h => ht t (by simp [h])) h1 (fun x hx => hl x (by simp [hx])) (fun x hx => hs x (by simp [hx]))
theorem types_ok (ts : List TypeId) (h : (ts.all fun t => Try.prog.readableRec t && decide (t < Try.prog.types.size)) = true) : ∀ t ∈ ts, Try.prog.readableRec t = true ∧ t < Try.prog.types.size := fun t ht => by
  have := List.all_eq_true.1 h t ht
  simpa [Bool.and_eq_true, decide_eq_true_eq] using this
/-- Behind a call that leaves what was as it was. -/
theorem post_of_stays {H : Type} {enc : TypeId × Value → H} {f : Func} {s : ChangeSpec} {apart fresh handsOn again : Bool} {W W' : World} {args : Array Value} {v : Value} {ds gs : List (DataW H)} {pa : List MemPlace}
    (hW : DataW.Whole enc Try.prog f.params.toList s.vars apart W args.toList ds gs pa) (hvars0 : s.vars = [])
    (hA : DataW.TrodAll enc Try.prog W 0 (fun _ => true) true f.params.toList args.toList ds pa)
    (hty : ∀ t ∈ f.params.toList, Try.prog.readableRec t = true ∧ t < Try.prog.types.size)
    (hargs : (s.fn H (ds ++ gs)).args = ds) (hvarsd : (s.fn H (ds ++ gs)).vars = [])
    (hres : ∀ (b : Nat) (sp : Nat → Bool) (hd : Bool), DataW.TrodAll enc Try.prog W' b sp hd f.resultTypes.toList (v.resultList f.resultTypes.size) (s.fn H (ds ++ gs)).results [])
    (hg : Grew W W')
    (hok : ∀ (j : Nat) (t : TypeId) (r : Value), f.resultTypes[j]? = some t → (v.resultList f.resultTypes.size)[j]? = some r → Value.okWide Try.prog W' .any 0 t r) :
    s.post enc Try.prog f apart fresh handsOn again W args v W' :=
  post_of_old (pa := pa) (pv := []) hW hres (fun sp hsp => by rw [hargs]; exact trodAll_stays hg _ hty hA hW.lt hsp) (fun sp hsp => by rw [hvarsd, hvars0]; exact rfl) (by simp) hg hok
end Go.Proofs.Ytommbfgagalckaa
/- An argument of bytes, opened. -/
namespace Go.Proofs.Ytommbfgagalckaa
set_option linter.unusedVariables false
set_option linter.unusedSimpArgs false
open Go.ChangeShapes Go.WideShapes Go.ChangeAt Go.RowKit
theorem cellsU8 : Try.prog.cellsOf 5 = 1 := by kernel_rfl
/-- Cells of bytes, as numbers. -/
theorem bytes_nat : ∀ (zs : List Int), (∀ n ∈ zs, (Lit.int .u8 n).wf = true) → ∃ l : List Nat, zs = l.map (fun (c : Nat) => (c : Int)) ∧ ∀ c ∈ l, c < 256
  | [], _ => ⟨[], rfl, by simp⟩
  | z :: zs, h => by
    obtain ⟨n, rfl, hn⟩ := u8_nat (h z (by simp))
    obtain ⟨l, rfl, hl⟩ := bytes_nat zs (fun n hn => h n (by simp [hn]))
    exact ⟨n :: l, rfl, by intro c hc; rcases List.mem_cons.1 hc with rfl | hc; exact hn; exact hl c hc⟩
theorem plain_of_cell {w : World} {a : Addr} {v : Value} (h : w.cell? a = some v) : a = ⟨a.block, a.off, none⟩ ∧ a.block < w.heap.size := by
  refine ⟨?_, World.block_lt_of_cell? w a h⟩
  cases a with
  | mk b o s =>
    cases s with
    | none => rfl
    | some s =>
      exfalso
      simp only [World.cell?] at h
      split at h <;> simp at h
/-- What is shown by cells at whatever address. -/
theorem shows_of_cells {w : World} {a : Addr} {c : Nat} {xs : List Value} (h : ∀ j u, xs[j]? = some u → w.cell? (a.add j) = some u) : Shows w (.slice (some a) xs.length c) xs := by
  cases hx : xs with
  | nil => exact .inr ⟨_, _, rfl, rfl⟩
  | cons x r =>
    rw [hx] at h
    have h0 := h 0 x rfl
    have ha : a.add 0 = a := by unfold Addr.add; simp
    rw [ha] at h0
    obtain ⟨e, hb⟩ := plain_of_cell h0
    refine .inl ⟨a.block, a.off, c, by rw [e], hb, fun j u hj => ?_⟩
    have := h j u hj
    rw [e, add_off] at this
    exact this
theorem open_bytes {H : Type} {enc : TypeId × Value → H} {W : World} {v : Value} {d : DataW H} {p : List MemPlace} (h : DataW.Trod enc Try.prog W 0 (fun _ => true) true 30 v d p) (hv : v.cells = #[v]) :
    ∃ (q : Option Addr) (c : Nat) (l : List Nat), v = .slice q l.length c ∧ (∀ x ∈ l, x < 256) ∧ l.length ≤ maxLen ∧ Shows W (.slice q l.length c) (bys l) := by
  obtain ⟨fuel, hf⟩ := h
  rw [hv] at hf
  rcases open_ints Try.underlying30 Try.underlying5 cellsU8 hf with ⟨hcs, _⟩ | ⟨a, len, cap, zs, hcs, _, hl, hm, hz, _, hcell, hwz⟩
  · obtain rfl : v = .slice none 0 0 := by simpa using hcs
    exact ⟨none, 0, [], rfl, by simp, by simp, .inr ⟨_, _, rfl, rfl⟩⟩
  · obtain rfl : v = .slice (some a) len cap := by simpa using hcs
    simp only [if_true] at hz
    obtain ⟨l, rfl, hlb⟩ := bytes_nat zs hwz
    have hl2 : (l.take len).length = len := by rw [List.length_take]; rw [List.length_map] at hz; omega
    refine ⟨some a, cap, l.take len, by rw [hl2], fun x hx => hlb x (List.mem_of_mem_take hx), by omega, ?_⟩
    have := shows_of_cells (w := W) (a := a) (c := cap) (xs := bys (l.take len)) (fun j u hj => by
      have hj2 : j < (l.take len).length := by
        have := (List.getElem?_eq_some_iff.1 hj).1
        rwa [bys_len] at this
      rw [hl2] at hj2
      rw [List.length_map] at hz hcell
      rw [hcell j (by omega)]
      have hj3 : j < l.length := by omega
      simp only [bys, List.getElem?_map, List.getElem?_take, if_pos hj2, List.getElem?_eq_getElem hj3, Option.map_some, Option.some.injEq] at hj
      rw [← hj]
      simp [List.getD, hj3])
    rwa [bys_len] at this
end Go.Proofs.Ytommbfgagalckaa
/- An argument of slices of bytes, opened. -/
namespace Go.Proofs.Ytommbfgagalckaa
set_option linter.unusedVariables false
set_option linter.unusedSimpArgs false
open Go.ChangeShapes Go.WideShapes Go.ChangeAt Go.RowKit
set_option maxRecDepth 100000
/-- The slice shows slices of these bytes. -/
def RowsAt (w : World) (v : Value) (ls : List (List Nat)) : Prop := ∃ vs : List Value, vs.length = ls.length ∧ Shows w v vs ∧ ∀ k, k < ls.length → Shows w (vs.getD k undef) (bys (ls.getD k []))
theorem RowsAt.grew {w w' : World} {v : Value} {ls : List (List Nat)} (h : RowsAt w v ls) (g : Grew w w') : RowsAt w' v ls := by
  obtain ⟨vs, h1, h2, h3⟩ := h
  exact ⟨vs, h1, h2.grew g, fun k hk => (h3 k hk).grew g⟩
theorem cellsBs : Try.prog.cellsOf 30 = 1 := by kernel_rfl
theorem open_rows {H : Type} {enc : TypeId × Value → H} {W : World} {v : Value} {d : DataW H} {p : List MemPlace} (h : DataW.Trod enc Try.prog W 0 (fun _ => true) true 85 v d p) (hv : v.cells = #[v]) :
    ∃ (q : Option Addr) (c : Nat) (ls : List (List Nat)), v = .slice q ls.length c ∧ (∀ l ∈ ls, ∀ x ∈ l, x < 256) ∧ (ls.length ≤ maxLen ∧ ∀ l ∈ ls, l.length ≤ maxLen) ∧ RowsAt W (.slice q ls.length c) ls := by
  obtain ⟨fuel, hf⟩ := h
  rw [hv] at hf
  rcases Deep.open_int_rows Try.underlying85 Try.underlying30 Try.underlying5 cellsBs cellsU8 hf with ⟨hcs, _⟩ | ⟨a, len, cap, A, L, C, Z, hcs, _, hl, hm, _, hr⟩
  · obtain rfl : v = .slice none 0 0 := by simpa using hcs
    exact ⟨none, 0, [], rfl, by simp, ⟨by simp, by simp⟩, [], rfl, .inr ⟨_, _, rfl, rfl⟩, by simp⟩
  · obtain rfl : v = .slice (some a) len cap := by simpa using hcs
    have each : ∀ r, r < cap → ∃ l : List Nat, l.length = L r ∧ (∀ x ∈ l, x < 256) ∧ l.length ≤ maxLen ∧ Shows W (.slice (A r) (L r) (C r)) (bys l) := fun r hr' => by
      obtain ⟨_, h1, h2, h3, h4, h5, h6⟩ := hr r hr'
      obtain ⟨l, hlz, hlb⟩ := bytes_nat (Z r) h4
      have hll : l.length = C r := by rw [← h3, hlz, List.length_map]
      have htl : (l.take (L r)).length = L r := by rw [List.length_take]; omega
      refine ⟨l.take (L r), htl, fun x hx => hlb x (List.mem_of_mem_take hx), by omega, ?_⟩
      cases hA : A r with
      | none =>
        have hc0 := h5 hA
        have hl0 : L r = 0 := by omega
        rw [hl0, List.take_zero]
        exact .inr ⟨_, _, rfl, rfl⟩
      | some a' =>
        obtain ⟨_, hcell⟩ := h6 a' hA
        have := shows_of_cells (w := W) (a := a') (c := C r) (xs := bys (l.take (L r))) (fun j u hj => by
          have hj2 : j < (l.take (L r)).length := by
            have := (List.getElem?_eq_some_iff.1 hj).1
            rwa [bys_len] at this
          rw [htl] at hj2
          rw [hcell j (by omega), hlz]
          have hj3 : j < l.length := by omega
          simp only [bys, List.getElem?_map, List.getElem?_take, if_pos hj2, List.getElem?_eq_getElem hj3, Option.map_some, Option.some.injEq] at hj
          rw [← hj]
          simp [List.getD, hj3])
        rwa [bys_len, htl] at this
    have pick : ∀ n, n ≤ len → ∃ ls : List (List Nat), ls.length = n ∧ ∀ r, r < n → (ls.getD r []).length = L r ∧ (∀ x ∈ ls.getD r [], x < 256) ∧ (ls.getD r []).length ≤ maxLen ∧ Shows W (.slice (A r) (L r) (C r)) (bys (ls.getD r [])) := by
      intro n
      induction n with
      | zero => exact fun _ => ⟨[], rfl, by omega⟩
      | succ n ih =>
        intro hn
        obtain ⟨ls, h1, h2⟩ := ih (by omega)
        obtain ⟨l, h3⟩ := each n (by omega)
        refine ⟨ls ++ [l], by simp [h1], fun r hr' => ?_⟩
        rcases Nat.lt_or_ge r n with h | h
        · have : (ls ++ [l]).getD r [] = ls.getD r [] := by simp [List.getD, List.getElem?_append_left (show r < ls.length by omega)]
          rw [this]; exact h2 r h
        · obtain rfl : r = n := by omega
          have : (ls ++ [l]).getD r [] = l := by simp [List.getD, ← h1]
          rw [this]; exact h3
    obtain ⟨ls, hls, hr2⟩ := pick len (Nat.le_refl _)
    have hmem : ∀ l ∈ ls, ∃ r, r < len ∧ ls.getD r [] = l := fun l hl' => by
      obtain ⟨r, hr', e⟩ := List.getElem_of_mem hl'
      exact ⟨r, by omega, by simp [List.getD, hr', e]⟩
    refine ⟨some a, cap, ls, by rw [hls], fun l hl' => ?_, ⟨by omega, fun l hl' => ?_⟩, (List.range len).map (fun r => .slice (A r) (L r) (C r)), by simp [hls], ?_, fun k hk => ?_⟩
    · obtain ⟨r, hr', rfl⟩ := hmem l hl'
      exact (hr2 r hr').2.1
    · obtain ⟨r, hr', rfl⟩ := hmem l hl'
      exact (hr2 r hr').2.2.1
    · have := shows_of_cells (w := W) (a := a) (c := cap) (xs := (List.range len).map (fun r => Value.slice (A r) (L r) (C r))) (fun j u hj => by
        have hj2 : j < len := by have := (List.getElem?_eq_some_iff.1 hj).1; simpa using this
        rw [(hr j (by omega)).1]
        simpa [hj2] using hj)
      rw [List.length_map, List.length_range] at this
      rw [hls]; exact this
    · rw [hls] at hk
      have : ((List.range len).map (fun r => Value.slice (A r) (L r) (C r))).getD k undef = .slice (A k) (L k) (C k) := by simp [List.getD, hk]
      rw [this]
      exact (hr2 k hk).2.2.2
end Go.Proofs.Ytommbfgagalckaa
/- sha.Of. -/
namespace Go.Proofs.Ytommbfgagalckaa
set_option linter.unusedVariables false
set_option linter.unusedSimpArgs false
open Go.RowKit
set_option maxRecDepth 100000
set_option maxRecDepth 100000 in
set_option maxHeartbeats 1600000 in
theorem of_w (ls : List (List Nat)) (v : Value) (w : World) (hb : ∀ l ∈ ls, ∀ x ∈ l, x < 256) (hn : ls.length ≤ 1000000) (hl : ls.flatten.length ≤ 1073741824) (hv : RowsAt w v ls) :
    Calls Try.prog 35 #[v] w fun e w' => e = .returned (.agg (iv (sum ls.flatten))) ∧ Grew w w' := by
  have HV := Lib.hid hv
  clear hv
  go_enter Try.func35, Try.ntmps35
  go_wp2_with (go_at_call 30; refine stop_of ?_)
  unfold Stop
  obtain ⟨vs, h1, h2, h3⟩ := HV.out
  have g0 : Grew w (w.alloc (.cells (iv id0) 23)) := (by repeat (first | with_reducible exact Grew.refl _ | with_reducible apply Grew.alloc | with_reducible apply Grew.grow | with_reducible apply Grew.drew | with_reducible apply Grew.drewN))
  refine (concat_w ls vs v _ h1 (h2.grew g0) (fun k hk => (h3 k hk).grew g0) (by omega) (by omega)).mono ?_
  rintro e w2 ⟨v2, rfl, ho, hg⟩
  have HO := Lib.hid ho.shows
  have HG := Lib.hid (g0.trans hg)
  have r1 : w2.rowAt w.heap.size = iv id0 := by rw [Grew.rowAt hg _ (by simp)]; simp [go_sem]
  have r2 : w2.rowFree w.heap.size = true := by rw [Grew.rowFree hg _ (by simp)]; simp [go_sem]
  have hlt : w.heap.size < w2.heap.size := by have := hg.size; simp at this; omega
  have hbf : ∀ c ∈ ls.flatten, c < 256 := fun c hc => by
    obtain ⟨l, hl1, hl2⟩ := List.mem_flatten.1 hc
    exact hb l hl1 c hl2
  have HB := Lib.hid hbf
  have hsl := sum_len ls.flatten
  clear ho hg g0 h2 h3 hbf HV hb
  go_wp2_with (go_at_call 13; refine (sum_w ls.flatten _ _ hl HB.out HO.out).mono ?_; rintro e w' ⟨rfl, δ, rfl⟩)
  refine bodyPost_ret (id_result rfl _ rfl (l := sum ls.flatten) ?_ hsl) rfl ⟨rfl, ?_⟩
  · rw [rowAt_grow_old _ _ _ (by rw [setRow_size]; exact hlt), rowAt_setRow_free _ _ _ r2]
  · exact (Grew.setRow_new HG.out _ _ (Nat.le_refl _)).grow _
/-- The sum as an id. -/
def Idb.sum (l : List Nat) : Idb := ⟨Go.Proofs.Ytommbfgagalckaa.sum l, sum_len l, sum_lt l⟩
end Go.Proofs.Ytommbfgagalckaa
/- The document's Of. -/
namespace Go.Proofs.Ytommbfgagalckaa
set_option linter.unusedVariables false
set_option linter.unusedSimpArgs false
open Go.RowKit
theorem catk_step' (ls : List (List Nat)) (k : Nat) (h : k < ls.length) : bys (catk ls (k + 1)) = bys (catk ls k) ++ bys (ls.getD k []) := by rw [catk_succ ls k h, bys_append]
set_option maxRecDepth 100000 in
set_option maxHeartbeats 6400000 in
theorem rof_w (ls : List (List Nat)) (v : Value) (w : World) (hb : ∀ l ∈ ls, ∀ x ∈ l, x < 256) (hn : ls.length ≤ 1000000) (hl : ∀ k, (catk ls k).length ≤ 1000000) (hv : RowsAt w v ls) :
    Calls Try.prog 52 #[v] w fun e w' => e = .returned (.agg (iv (sum ls.flatten))) ∧ Grew w w' := by
  obtain ⟨ib, hi, hz, hsz, hby⟩ := info_b
  obtain ⟨vs, hv1, hv2, hv3⟩ := hv
  obtain ⟨p, c, rfl⟩ := shows_form hv2
  rw [hv1] at hv2 ⊢
  have HV1 := Lib.hid hv1
  have HV2 := Lib.hid hv2
  have HV3 := Lib.hid hv3
  have HB := Lib.hid hb
  have HL := Lib.hid hl
  have hsl := sum_len ls.flatten
  obtain ⟨N, hN⟩ : ∃ N, ls.length = N := ⟨_, rfl⟩
  have HN := Lib.hid hN
  rw [hN] at hn hv2 HV2 ⊢
  clear hv1 hv2 hv3 hb hl hN
  go_enter Try.func52, Try.ntmps52
  go_wp2
  obtain ⟨A, hA⟩ : ∃ A, w.alloc (.cells (iv id0) 23) = A := ⟨_, rfl⟩
  have gA : Grew w A := by rw [← hA]; exact (by repeat (first | with_reducible exact Grew.refl _ | with_reducible apply Grew.alloc | with_reducible apply Grew.grow | with_reducible apply Grew.drew | with_reducible apply Grew.drewN))
  have sA : A.heap.size = w.heap.size + 1 := by rw [← hA]; simp
  have r0 : A.rowAt w.heap.size = iv id0 := by rw [← hA]; simp [go_sem]
  have f0 : A.rowFree w.heap.size = true := by rw [← hA]; simp [go_sem]
  rw [hA]
  have GA := Lib.hid gA
  have R0 := Lib.hid r0
  have F0 := Lib.hid f0
  clear hA gA r0 f0
  go_loopw [4, 3] (fun i v wr => ∃ m : Nat, m ≤ N ∧ i = .int .i64 m ∧ OwnR wr A.heap.size 5 v (bys (catk ls m)) ∧ Grew A wr) (fun i _ _ => N - (intOf i).toNat)
  case atStart => exact ⟨0, by omega, rfl, OwnR.nil _ _ _, Grew.refl _⟩
  case round =>
    obtain ⟨m, hm, rfl, ho, hg⟩ := hrel
    have HO := Lib.hid ho
    have HG := Lib.hid hg
    have GW := Lib.hid (GA.out.trans hg)
    clear ho hg
    by_cases hmN : m < N
    · have hlt : (m : Int) < (N : Int) := by omega
      have hrow := (HV3.out m (by rw [HN.out]; exact hmN)).grew GW.out
      obtain ⟨b, o, hp, hbw, hcell⟩ : ∃ b o, p = some ⟨b, o, none⟩ ∧ b < w.heap.size ∧ w.cell? ⟨b, o + m, none⟩ = some (vs.getD m undef) := by
        rcases HV2.out with ⟨b, o, c2, he, hb2, hc⟩ | ⟨p2, c2, he, h0⟩
        · simp only [Value.slice.injEq] at he
          exact ⟨b, o, he.1, hb2, hc m _ (by simp [List.getD, HV1.out, HN.out, hmN])⟩
        · exfalso
          have := HV1.out
          rw [h0] at this
          simp at this
          have := HN.out
          omega
      subst hp
      have hcell2 := GW.out.cell hcell
      have hstep := Lib.hid (catk_step' ls m (by rw [HN.out]; exact hmN))
      have hlen1 := HL.out m
      have hlen2 := HL.out (m + 1)
      rw [catk_len ls m (by rw [HN.out]; exact hmN)] at hlen2
      obtain ⟨x, hx⟩ : ∃ x, ls.getD m [] = x := ⟨_, rfl⟩
      rw [hx] at hrow hstep hlen2
      obtain ⟨u, hu⟩ : ∃ u, vs.getD m undef = u := ⟨_, rfl⟩
      rw [hu] at hrow hcell hcell2
      obtain ⟨pu, cu, rfl⟩ := shows_form hrow
      have HR := Lib.hid hrow
      have hNI : (N : Int) ≤ 1000000 := by omega
      clear hx hu hcell hrow hn hm
      go_wp2_with (at_builtin; refine stop_of ?_)
      unfold Stop
      refine wpList_appends rfl _ _ _ rfl _ ib _ 1 under_bs hi hz hsz hby rfl A _ _ _ rfl rfl _ (bys x) HG.out (by exact HO.out) (by exact HR.out) (bys_one x) (by rw [bys_len, bys_len]; simp only [maxLen]; omega) (by rw [bys_len, bys_len]; omega) ?_
      intro v2 w3 ho2 hg2
      rw [← hstep.out] at ho2
      go_wp2
      exact ⟨⟨m + 1, by omega, by go_num, ho2, hg2⟩, by simp only [intOf]; omega⟩
    · obtain rfl : m = N := by omega
      have hge : ¬ ((m : Int) < (m : Int)) := by omega
      have hall := catk_all ls
      rw [HN.out] at hall
      rw [hall] at HO
      have hfl : ls.flatten.length ≤ 1000000 := by rw [← hall]; exact HL.out m
      have hfb : ∀ x ∈ ls.flatten, x < 256 := fun x hx => by
        obtain ⟨l, hl1, hl2⟩ := List.mem_flatten.1 hx
        exact HB.out l hl1 x hl2
      have C1 := Lib.hid (fun W v (h : Shows W v (bys ls.flatten)) => rsum_w ls.flatten v W (by omega) hfb h)
      have r2 : wr.rowAt w.heap.size = iv id0 := by rw [Grew.rowAt HG.out _ (by omega)]; exact R0.out
      have f2 : wr.rowFree w.heap.size = true := by rw [Grew.rowFree HG.out _ (by omega)]; exact F0.out
      have hlt2 : w.heap.size < wr.heap.size := by have := HG.out.size; omega
      clear hm hmN hn sA hall hfl hfb
      go_wp2_with (go_at_call 70; refine (C1.out _ _ HO.out.shows).mono ?_; rintro e w' ⟨rfl, δ, rfl⟩)
      refine bodyPost_ret (id_result rfl _ rfl (l := sum ls.flatten) ?_ hsl) rfl ⟨rfl, ?_⟩
      · rw [rowAt_grow_old _ _ _ (by rw [setRow_size]; exact hlt2), rowAt_setRow_free _ _ _ f2]
      · exact (Grew.setRow_new GW.out _ _ (Nat.le_refl _)).grow _
end Go.Proofs.Ytommbfgagalckaa
/- Slices of ids, arrays of two ids. -/
namespace Go.Proofs.Ytommbfgagalckaa
set_option linter.unusedVariables false
set_option linter.unusedSimpArgs false
open Go.RowKit
/-- An id's cells. -/
def Idb.cs (x : Idb) : List Value := bys x.l
theorem Idb.cs_len (x : Idb) : x.cs.length = 32 := by unfold Idb.cs; rw [bys_len, x.len]
theorem bys_iv (l : List Nat) : (bys l).toArray = iv l := rfl
theorem World.rangeAt.grew {w w' : World} {b o : Nat} {cs : List Value} (h : w.rangeAt b o cs) (g : Grew w w') : w'.rangeAt b o cs := fun j v hj => g.cell (h j v hj)
theorem size_id : (Try.prog.info? 23).map (·.size) = some 32 := by kernel_rfl
/-- The load of an id from the middle of a block. -/
theorem load_idm {w : World} {b o : Nat} {x : Idb} (h : w.rangeAt b o x.cs) : (rowLoad 23 (.pointer (some ⟨b, o, none⟩))).run Try.prog w = .ok (.value (.agg (iv x.l))) w := by
  unfold rowLoad
  rw [Sem.run_bind, run_loadAt_mid w b o 23 x.cs _ h under_id rfl (by rw [x.cs_len]; exact size_id)]
  rfl
theorem load_idg {w : World} {b o : Nat} {x : Idb} (h : w.rangeAt b o x.cs) (δ : Junk) : (rowLoad 23 (.pointer (some ⟨b, o, none⟩))).run Try.prog (w.grow δ) = .ok (.value (.agg (iv x.l))) (w.grow δ) := load_idm (World.rangeAt.grew h ⟨δ, rfl⟩)
/-- The slice shows these ids. -/
def ShowsI (w : World) (v : Value) (ls : List Idb) : Prop :=
  (∃ b o c, v = .slice (some ⟨b, o, none⟩) ls.length c ∧ ls.length ≤ c ∧ b < w.heap.size ∧ ∀ j x, ls[j]? = some x → w.rangeAt b (o + j * 32) x.cs) ∨ (∃ p c, v = .slice p 0 c ∧ ls = [])
theorem ShowsI.grew {w w' : World} {v : Value} {ls : List Idb} (h : ShowsI w v ls) (g : Grew w w') : ShowsI w' v ls := by
  rcases h with ⟨b, o, c, rfl, hc, hb, h⟩ | h
  · exact .inl ⟨b, o, c, rfl, hc, Nat.lt_of_lt_of_le hb g.size, fun j x hj => World.rangeAt.grew (h j x hj) g⟩
  · exact .inr h
theorem showsI_form {w : World} {v : Value} {ls : List Idb} (h : ShowsI w v ls) : ∃ p c, v = .slice p ls.length c := by
  rcases h with ⟨b, o, c, rfl, _⟩ | ⟨p, c, rfl, rfl⟩
  · exact ⟨_, _, rfl⟩
  · exact ⟨_, _, rfl⟩
theorem showsI_some {w : World} {p : Option Addr} {n c : Nat} {ls : List Idb} (h : ShowsI w (.slice p n c) ls) (hne : 0 < ls.length) : ∃ b o, p = some ⟨b, o, none⟩ ∧ n = ls.length ∧ ls.length ≤ c ∧ b < w.heap.size ∧ ∀ j x, ls[j]? = some x → w.rangeAt b (o + j * 32) x.cs := by
  rcases h with ⟨b, o, c', he, hc, hb, h⟩ | ⟨p', c', he, rfl⟩
  · simp only [Value.slice.injEq] at he
    exact ⟨b, o, he.1, he.2.1, he.2.2 ▸ hc, hb, h⟩
  · simp at hne
/-- A part of the ids. -/
theorem showsI_part {w : World} {b o : Nat} {ls : List Idb} (hb : b < w.heap.size) (h : ∀ j x, ls[j]? = some x → w.rangeAt b (o + j * 32) x.cs) (i n c' : Nat) (hi : i + n ≤ ls.length) (hc : n ≤ c') : ShowsI w (.slice (some ⟨b, o + i * 32, none⟩) n c') ((ls.drop i).take n) := by
  have hlen : ((ls.drop i).take n).length = n := by rw [List.length_take, List.length_drop]; omega
  refine .inl ⟨b, o + i * 32, c', by rw [hlen], by omega, hb, fun j x hj => ?_⟩
  have hj2 : j < n := by have := (List.getElem?_eq_some_iff.1 hj).1; omega
  rw [List.getElem?_take, if_pos hj2, List.getElem?_drop] at hj
  have := h (i + j) x hj
  rwa [show o + (i + j) * 32 = o + i * 32 + j * 32 by omega] at this
theorem foldl_set (cs : List Value) : ∀ (k off : Nat) (C : Array Value), off + k + cs.length ≤ C.size → ((cs.zipIdx k).foldl (fun C (c, j) => C.setIfInBounds (off + j) c) C).toList = C.toList.take (off + k) ++ cs ++ C.toList.drop (off + k + cs.length) := by
  induction cs with
  | nil => intro k off C _; simp
  | cons c cs ih =>
    intro k off C h
    rw [List.zipIdx_cons, List.foldl_cons, ih (k + 1) off _ (by simpa using (by simp at h; omega))]
    simp only [List.length_cons] at h
    have hlt : off + k < C.toList.length := by simp; omega
    rw [Array.toList_setIfInBounds]
    rw [List.take_set, List.drop_set_of_lt (by omega)]
    rw [show off + (k + 1) = off + k + 1 by omega, List.take_add_one, List.getElem?_eq_getElem hlt]
    rw [List.set_append_right _ _ (by simp; omega)]
    simp only [List.length_cons, Option.toList_some, List.length_take]
    rw [show off + k - min (off + k) C.toList.length = 0 by omega]
    simp [show off + k + 1 + cs.length = off + k + (cs.length + 1) by omega]
end Go.Proofs.Ytommbfgagalckaa
/- Rows of the call's own whose elements are of many cells each. No program in sight. -/
namespace Go
set_option linter.unusedVariables false
set_option linter.unusedSimpArgs false
open Go.RowKit
section
variable {α : Type} {k : Nat} {f : α → List Value}
theorem flat_get (hf : ∀ x, (f x).length = k) : ∀ (ls : List α) (j : Nat) (x : α), ls[j]? = some x → ∀ i, i < k → (ls.flatMap f)[j * k + i]? = (f x)[i]?
  | [], _, _, h, _, _ => by simp at h
  | y :: ls, 0, x, h, i, hi => by
    simp only [List.getElem?_cons_zero, Option.some.injEq] at h
    subst h
    rw [List.flatMap_cons, Nat.zero_mul, Nat.zero_add, List.getElem?_append_left (by rw [hf]; exact hi)]
  | y :: ls, j + 1, x, h, i, hi => by
    rw [List.getElem?_cons_succ] at h
    rw [List.flatMap_cons, List.getElem?_append_right (by rw [hf, Nat.succ_mul]; omega), hf, show (j + 1) * k + i - k = j * k + i by rw [Nat.succ_mul]; omega]
    exact flat_get hf ls j x h i hi
theorem flat_len (hf : ∀ x, (f x).length = k) : ∀ ls : List α, (ls.flatMap f).length = ls.length * k
  | [] => by simp
  | y :: ls => by rw [List.flatMap_cons, List.length_append, hf, flat_len hf ls, List.length_cons, Nat.succ_mul]; omega
/-- The slice shows these. -/
def ShowsE (k : Nat) (f : α → List Value) (w : World) (v : Value) (ls : List α) : Prop :=
  (∃ b o c, v = .slice (some ⟨b, o, none⟩) ls.length c ∧ ls.length ≤ c ∧ b < w.heap.size ∧ ∀ j x, ls[j]? = some x → w.rangeAt b (o + j * k) (f x)) ∨ (∃ p c, v = .slice p 0 c ∧ ls = [])
theorem rangeAt_grew {w w' : World} {b o : Nat} {cs : List Value} (h : w.rangeAt b o cs) (g : Grew w w') : w'.rangeAt b o cs := fun j v hj => g.cell (h j v hj)
theorem ShowsE.grew {w w' : World} {v : Value} {ls : List α} (h : ShowsE k f w v ls) (g : Grew w w') : ShowsE k f w' v ls := by
  rcases h with ⟨b, o, c, rfl, hc, hb, h⟩ | h
  · exact .inl ⟨b, o, c, rfl, hc, Nat.lt_of_lt_of_le hb g.size, fun j x hj => rangeAt_grew (h j x hj) g⟩
  · exact .inr h
def OwnE (k : Nat) (f : α → List Value) (w : World) (base : Nat) (e : TypeId) (v : Value) (ls : List α) : Prop := w.ownsRow base e k v ls.length (ls.flatMap f)
theorem OwnE.nil (w : World) (base : Nat) (e : TypeId) : OwnE k f w base e (.slice none 0 0) [] := World.ownsRow_nil w base e k
theorem OwnE.range (hf : ∀ x, (f x).length = k) {w : World} {base : Nat} {e : TypeId} {g n cap : Nat} {ls : List α} (h : OwnE k f w base e (.slice (some ⟨g, 0, none⟩) n cap) ls) (j : Nat) (x : α) (hj : ls[j]? = some x) : w.rangeAt g (j * k) (f x) := by
  intro i v hi
  have hik : i < k := by have := (List.getElem?_eq_some_iff.1 hi).1; rwa [hf] at this
  have h1 := World.ownsRow.cells h (g := g) rfl (j * k + i) v (by rw [flat_get hf ls j x hj i hik]; exact hi)
  rw [add_off, Nat.zero_add] at h1
  exact h1
theorem OwnE.form {w : World} {base : Nat} {e : TypeId} {v : Value} {ls : List α} (h : OwnE k f w base e v ls) : (v = .slice none 0 0 ∧ ls = []) ∨ ∃ g cap, v = .slice (some ⟨g, 0, none⟩) ls.length cap ∧ base ≤ g ∧ g < w.heap.size ∧ ls.length ≤ cap := by
  rcases h.2 with ⟨rfl, h0⟩ | ⟨g, cap, cur, rfl, hb, hg, hn, hm, hs, ht⟩
  · exact .inl ⟨rfl, List.length_eq_zero_iff.1 h0⟩
  · exact .inr ⟨g, cap, rfl, hb, (Array.getElem?_eq_some_iff.1 hg).1, hn⟩
theorem OwnE.shows (hf : ∀ x, (f x).length = k) {w : World} {base : Nat} {e : TypeId} {v : Value} {ls : List α} (h : OwnE k f w base e v ls) : ShowsE k f w v ls := by
  rcases h.form with ⟨rfl, rfl⟩ | ⟨g, cap, rfl, hb, hg, hc⟩
  · exact .inr ⟨_, _, rfl, rfl⟩
  · exact .inl ⟨g, 0, cap, rfl, hc, hg, fun j x hj => by rw [Nat.zero_add]; exact OwnE.range hf h j x hj⟩
theorem OwnE.grew {w w' : World} {base : Nat} {e : TypeId} {v : Value} {ls : List α} (h : OwnE k f w base e v ls) (g : Grew w w') : OwnE k f w' base e v ls := by
  refine ⟨h.1, ?_⟩
  rcases h.2 with hn | ⟨b, cap, cur, rfl, hb, hg, rest⟩
  · exact .inl hn
  · exact .inr ⟨b, cap, cur, rfl, hb, (g.heap (Array.getElem?_eq_some_iff.1 hg).1).trans hg, rest⟩
theorem OwnE.base {w : World} {base base' : Nat} {e : TypeId} {v : Value} {ls : List α} (h : OwnE k f w base e v ls) (hb : base' ≤ base) : OwnE k f w base' e v ls := by
  refine ⟨h.1, ?_⟩
  rcases h.2 with hn | ⟨b, cap, cur, rfl, hb', rest⟩
  · exact .inl hn
  · exact .inr ⟨b, cap, cur, rfl, Nat.le_trans hb hb', rest⟩
theorem OwnE.block {w : World} {base : Nat} {e : TypeId} {v : Value} {ls : List α} (h : OwnE k f w base e v ls) : ∀ k, v.ownBlock = some k → base ≤ k ∧ k < w.heap.size := World.ownsRow.lt h
theorem OwnE.kept {w w' : World} {base : Nat} {e : TypeId} {v : Value} {ls : List α} {row : Option Nat} (h : OwnE k f w base e v ls) (hg : w.grownBy w' row) (hne : v.ownBlock = none ∨ v.ownBlock ≠ row) : OwnE k f w' base e v ls := World.ownsRow.kept h hg hne
/-- A row that was just built. -/
theorem OwnE.made (hf : ∀ x, (f x).length = k) (w : World) (base : Nat) (e : TypeId) (ls : List α) (hb : base ≤ w.heap.size) (hl : ls.length ≤ maxLen) : OwnE k f (w.alloc (.cells (ls.flatMap f).toArray e)) base e (.slice (some ⟨w.heap.size, 0, none⟩) ls.length ls.length) ls := by
  refine ⟨flat_len hf ls, .inr ⟨w.heap.size, ls.length, _, rfl, hb, heap_alloc_new w _, Nat.le_refl _, hl, by simpa using flat_len hf ls, ?_⟩⟩
  have : (ls.flatMap f).toArray.toList = ls.flatMap f := rfl
  rw [this, ← flat_len hf ls, List.take_length]
theorem showsE_flat (hf : ∀ x, (f x).length = k) {w : World} {b o : Nat} {ls : List α} (h : ∀ j x, ls[j]? = some x → w.rangeAt b (o + j * k) (f x)) : ∀ j u, (ls.flatMap f)[j]? = some u → w.cell? ⟨b, o + j, none⟩ = some u := by
  intro j u hj
  have hjl := (List.getElem?_eq_some_iff.1 hj).1
  rw [flat_len hf] at hjl
  rcases Nat.eq_zero_or_pos k with rfl | hk
  · omega
  have hq : j / k < ls.length := (Nat.div_lt_iff_lt_mul hk).2 hjl
  have hx : ls[j / k]? = some ls[j / k] := List.getElem?_eq_getElem hq
  have hm : j % k < k := Nat.mod_lt _ hk
  have e1 : j / k * k + j % k = j := by rw [Nat.mul_comm]; exact Nat.div_add_mod j k
  have h1 := flat_get hf ls (j / k) _ hx (j % k) hm
  rw [e1, hj] at h1
  have h2 := h (j / k) _ hx (j % k) u h1.symm
  rwa [Nat.add_assoc, e1] at h2
/-- append, of whatever is shown. -/
theorem wpList_appendE {P : Program} {ops : Array Oper} {rest : List Oper} {o : Oper} {a : Act} {Q : Exit → Act → World → Prop} (hf : ∀ x, (f x).length = k) (hk : 0 < k) (hgd : o.guard = none) (s x : Operand) (t : TypeId)
    (ho : o.op = .call { callee := .builtin .append, args := #[s, x], argTypes := #[t, t] }) (e : TypeId) (i : TypeInfo) (z : Value) (bytes : Nat) (ht : P.underlying t = some (.slice e)) (hi : P.info? e = some i) (hz : i.zero = some z)
    (hsize : i.size = k) (hby : i.bytes = bytes) (hzs : z.cells.size = k) (h1 : ∀ x, ∀ u ∈ f x, u.oneCell' = true) (A X : World) (base : Nat) (v y : Value) (hs : a.eval s = v) (hy : a.eval x = y) (xs news : List α) (hg : Grew A X) (hA : A.heap.size ≤ base) (hX : base ≤ X.heap.size) (hown : OwnE k f X base e v xs) (hsh : ShowsE k f X y news)
    (h63 : xs.length + news.length ≤ maxLen) (hbytes : (xs.length + news.length) * bytes ≤ 140737488355328) (hne : 0 < news.length)
    (h : ∀ v' w', OwnE k f w' base e v' (xs ++ news) → Grew A w' → X.grownBy w' v.ownBlock → wpList P ops Q rest (a.put o.dst v') w') : wpList P ops Q (o :: rest) a X := by
  have hblock := hown.block
  rcases hsh with ⟨b, of, c, rfl, hc, hb, hr⟩ | ⟨p, c, rfl, rfl⟩
  case inr => simp at hne
  obtain ⟨v', w', hrun, h2, h3, _⟩ := run_append_own (P := P) X base t o.type e i z k bytes ht hi hz hsize hby hzs hk v xs.length (xs.flatMap f) hown ⟨b, of, none⟩ news.length c (news.flatMap f) (flat_len hf news) (fun j u hj => by rw [add_off]; exact showsE_flat hf hr j u hj)
    (fun u hu => by obtain ⟨x, _, hx⟩ := List.mem_flatMap.1 hu; exact h1 x u hx) h63 hbytes hX
  refine Lib.wpList_append_run X hgd s x t t ho v _ hs hy v' w' hrun (h v' w' ?_ (hg.grown h3 fun j hj => Nat.le_trans hA (hblock j hj).1) h3)
  unfold OwnE
  rw [List.length_append, List.flatMap_append]
  exact h2
theorem showsE_one (hf : ∀ x, (f x).length = k) (X : World) (y : α) (e : TypeId) (c : Nat) (hc : 1 ≤ c) : ShowsE k f (X.alloc (.cells (f y).toArray e)) (.slice (some ⟨X.heap.size, 0, none⟩) 1 c) [y] := by
  refine .inl ⟨_, _, _, rfl, hc, by simp, fun j u hj => ?_⟩
  cases j with
  | zero =>
    simp only [List.getElem?_cons_zero, Option.some.injEq] at hj
    subst hj
    intro i v hi
    unfold World.cell?
    rw [show (X.alloc (.cells (f y).toArray e)).heap[X.heap.size]? = some (.cells (f y).toArray e (0, 0)) from heap_alloc_new X _]
    simpa using hi
  | succ j => simp at hj
theorem showsE_one_g (hf : ∀ x, (f x).length = k) (X : World) (δ : Junk) (y : α) (e : TypeId) (c : Nat) (hc : 1 ≤ c) : ShowsE k f ((X.grow δ).alloc (.cells (f y).toArray e)) (.slice (some ⟨X.heap.size + δ.n, 0, none⟩) 1 c) [y] := by
  have := showsE_one hf (X.grow δ) y e c hc
  rwa [size_grow] at this
end
end Go
/- Parts of variables of many cells; slices built of one. -/
namespace Go.Proofs.Ytommbfgagalckaa
set_option linter.unusedVariables false
set_option linter.unusedSimpArgs false
open Go.RowKit
set_option maxRecDepth 100000
def putAt (C : Array Value) : Nat → List Value → Array Value
  | _, [] => C
  | o, v :: r => putAt (C.setIfInBounds o v) (o + 1) r
theorem putAt_list : ∀ (vs : List Value) (o : Nat) (C : Array Value), o + vs.length ≤ C.size → (putAt C o vs).toList = C.toList.take o ++ vs ++ C.toList.drop (o + vs.length)
  | [], o, C, _ => by simp [putAt]
  | v :: r, o, C, h => by
    simp only [List.length_cons] at h
    have hlt : o < C.toList.length := by simp; omega
    rw [putAt, putAt_list r (o + 1) _ (by simp; omega), Array.toList_setIfInBounds, List.take_set, List.drop_set_of_lt (by omega), List.take_add_one, List.getElem?_eq_getElem hlt]
    rw [List.set_append_right _ _ (by simp; omega)]
    simp only [List.length_cons, Option.toList_some, List.length_take]
    rw [show o - min o C.toList.length = 0 by omega]
    simp [show o + 1 + r.length = o + (r.length + 1) by omega]
theorem setCells_row : ∀ (vs : List Value) (w : World) (g o : Nat), w.rowFree g = true → w.setCells g o vs = w.setRow g (putAt (w.rowAt g) o vs)
  | [], w, g, o, h => (setRow_same' _ _ h).symm
  | v :: r, w, g, o, h => by
    have e1 : w.setCell ⟨g, o, none⟩ v = w.setRow g ((w.rowAt g).setIfInBounds o v) := by
      have h2 := setCell_setRow_free w g (w.rowAt g) h o v
      rw [setRow_same' _ _ h] at h2
      exact h2
    have hfr : (w.setRow g ((w.rowAt g).setIfInBounds o v)).rowFree g = true := rowFree_setRow_free _ _ _ h
    rw [World.setCells, e1, setCells_row r _ g (o + 1) hfr, rowAt_setRow_free _ _ _ h, putAt, setRow_setRow]
theorem there_row {w : World} {g o n : Nat} (hf : w.rowFree g = true) (h : o + n ≤ (w.rowAt g).size) : w.there g o n := fun j hj => by
  obtain ⟨t, hg⟩ := row_of_free w hf
  refine ⟨?_, ?_⟩
  · rw [cell_rowAt, Array.getElem?_eq_getElem (by omega)]; rfl
  · have := frozen_setRow_free w g (w.rowAt g) hf (o + j)
    rwa [setRow_same' _ _ hf] at this
theorem iv_bys (l : List Nat) : (iv l).toList = bys l := rfl
theorem arr_ext {a b : Array Value} (h : a.toList = b.toList) : a = b := by cases a; cases b; simpa using h
theorem load_part {w : World} {g o : Nat} {cs : List Value} (hl : cs.length = 32) (h : w.rangeAt g o cs) : (rowLoad 23 (.pointer (some ⟨g, o, none⟩))).run Try.prog w = .ok (.value (.agg cs.toArray)) w := by
  unfold rowLoad
  rw [Sem.run_bind, run_loadAt_mid w g o 23 cs _ h under_id rfl (by rw [hl]; exact size_id)]
  rfl
theorem store_part {w : World} {g o : Nat} {l : List Nat} (hl : l.length = 32) (hf : w.rowFree g = true) (h : o + 32 ≤ (w.rowAt g).size) : (rowStore 23 (.pointer (some ⟨g, o, none⟩)) (.agg (iv l))).run Try.prog w = .ok .skip (w.setRow g (putAt (w.rowAt g) o (iv l).toList)) := by
  have hs : (iv l).size = 32 := by rw [iv_size, hl]
  unfold rowStore
  rw [Sem.run_bind, run_storeAt_mid w g o 23 (iv l) (there_row hf (by rw [hs]; exact h)) (by rw [hs]; exact size_id) (iv_all l), setCells_row _ _ _ _ hf]
  rfl
theorem run_buildSlice1 {tt e : TypeId} {i : TypeInfo} {S : Nat} {C Z : Array Value} (ht : Try.prog.underlying tt = some (.slice e)) (hi : Try.prog.info? e = some i) (hz : i.zero = some (.agg Z)) (hs : i.size = S) (hZ : Z.size = S) (hC : C.size = S) (h0 : 0 < S) (hS : S ≤ 1000) (w : World) :
    (Instr.buildSlice tt 1 #[(0, .agg C)]).run Try.prog w = .ok (.slice (some ⟨w.heap.size, 0, none⟩) 1 1) (w.alloc (.cells C e)) := by
  have hsz : (sizeOf e).run Try.prog w = .ok S w := by simp [sizeOf, typeInfo, hi, hs]
  have hzv : (zeroValue e).run Try.prog w = .ok (.agg Z) w := by simp [zeroValue, typeInfo, hi, hz]
  have h24 : ¬ (1 * S > 2 ^ 24) := by omega
  have hn0 : ¬ (1 * S = 0) := by omega
  have hf : ∀ D : Array Value, D.size = S → Instr.fill (fun i => some (i * S, S)) D [(0, .agg C)] = some C := fun D hD => by
    have sa : (Value.agg C).cells = C := rfl
    simp only [Instr.fill, sa, hC]
    have ea : C.zipIdx = (C.toList.zipIdx).toArray := by cases C; simp
    have h1 := foldl_set C.toList 0 (0 * S) D (by simp [hC, hD])
    rw [ea, List.foldl_toArray]
    rw [if_neg (by simp [hD])]
    congr 1
    refine arr_ext ?_
    rw [h1]
    simp [hC, hD]
  unfold Instr.buildSlice
  simp only [Sem.run_bind, run_underlying ht w, Result.andThen_ok, hsz, h24, hn0, if_false, hzv, Sem.run_pure]
  rw [hf _ (by simp)]
  simp [newRow]
theorem grownBy_setRow (w : World) (g : Nat) (cs : Array Value) : w.grownBy (w.setRow g cs) (some g) :=
  ⟨rfl, rfl, rfl, by rw [setRow_size]; exact Nat.le_refl _, fun k _ hne => by
    have : g ≠ k := fun h => hne (by rw [h])
    unfold World.setRow
    simp [Array.getElem?_modify, this]⟩
theorem World.heap_setRow_ne (w : World) (g : Nat) (cs : Array Value) (k : Nat) (h : g ≠ k) : (w.setRow g cs).heap[k]? = w.heap[k]? := by
  unfold World.setRow
  simp [Array.getElem?_modify, h]
end Go.Proofs.Ytommbfgagalckaa
/- append, of whatever is shown, nothing too; a step whose guard holds. No program in sight. -/
namespace Go
set_option linter.unusedVariables false
set_option linter.unusedSimpArgs false
open Go.RowKit
set_option maxRecDepth 100000
theorem wpList_unguard {P : Program} {ops : Array Oper} {Q : Exit → Act → World → Prop} {d : Option Tmp} {op : Op} {t : TypeId} {p : String} {af : Array Edge} {j : Nat} {b : Bool} {rest : List Oper} {a : Act} {w : World}
    (hw : yielded ops a.tmps j = some b) (h : wpList P ops Q (⟨d, op, t, p, af, none⟩ :: rest) a w) : wpList P ops Q (⟨d, op, t, p, af, some (j, b)⟩ :: rest) a w := by
  unfold wpList at h ⊢
  have h1 : Region.wanted ⟨d, op, t, p, af, some (j, b)⟩ (yielded ops a.tmps) = true := by simp [Region.wanted, hw]
  have h2 : Region.wanted ⟨d, op, t, p, af, none⟩ (yielded ops a.tmps) = true := rfl
  rw [if_pos h1]
  rw [if_pos h2] at h
  exact h
theorem _root_.Go.Calls.pure_of_g5 {P : Program} {f : FuncId} {args : Array Value} {X : World} {a b c e n : Junk} {v : Value}
    (h : Calls P f args (X.grow ⟨a.objs ++ (b.objs ++ (c.objs ++ (e.objs ++ n.objs))), n.drawn⟩) fun e' w' => e' = .returned v ∧ Grew (X.grow ⟨a.objs ++ (b.objs ++ (c.objs ++ (e.objs ++ n.objs))), n.drawn⟩) w') :
    Calls P f args (X.grow ⟨a.objs ++ (b.objs ++ (c.objs ++ (e.objs ++ n.objs))), n.drawn⟩) fun e' w'' => e' = .returned v ∧ ∃ m : Junk, w'' = X.grow ⟨a.objs ++ (b.objs ++ (c.objs ++ (e.objs ++ m.objs))), m.drawn⟩ :=
  h.mono fun _ _ ⟨he, hm⟩ => ⟨he, by obtain ⟨m, rfl⟩ := hm; exact ⟨⟨n.objs ++ m.objs, m.drawn⟩, by simp [grow_grow, Array.append_assoc]⟩⟩
section
variable {α : Type} {k : Nat} {f : α → List Value}
/-- append, of whatever is shown, nothing too. -/
theorem wpList_appendE2 {P : Program} {ops : Array Oper} {rest : List Oper} {o : Oper} {a : Act} {Q : Exit → Act → World → Prop} (hf : ∀ x, (f x).length = k) (hk : 0 < k) (hgd : o.guard = none) (s x : Operand) (t : TypeId)
    (ho : o.op = .call { callee := .builtin .append, args := #[s, x], argTypes := #[t, t] }) (e : TypeId) (i : TypeInfo) (z : Value) (bytes : Nat) (ht : P.underlying t = some (.slice e)) (hi : P.info? e = some i) (hz : i.zero = some z)
    (hsize : i.size = k) (hby : i.bytes = bytes) (hzs : z.cells.size = k) (h1 : ∀ x, ∀ u ∈ f x, u.oneCell' = true) (A X : World) (base : Nat) (v y : Value) (hs : a.eval s = v) (hy : a.eval x = y) (xs news : List α) (hg : Grew A X) (hA : A.heap.size ≤ base) (hX : base ≤ X.heap.size) (hown : OwnE k f X base e v xs) (hsh : ShowsE k f X y news)
    (h63 : xs.length + news.length ≤ maxLen) (hbytes : (xs.length + news.length) * bytes ≤ 140737488355328)
    (h : ∀ v' w', OwnE k f w' base e v' (xs ++ news) → Grew A w' → wpList P ops Q rest (a.put o.dst v') w') : wpList P ops Q (o :: rest) a X := by
  rcases hsh with ⟨b, of, c, rfl, hc, hb, hr⟩ | ⟨p, c, rfl, rfl⟩
  · rcases Nat.eq_zero_or_pos news.length with h0 | hp
    · obtain rfl : news = [] := List.length_eq_zero_iff.1 h0
      have hblock := hown.block
      obtain ⟨v', w', hrun, h2, h3, _⟩ := run_append_own (P := P) X base t o.type e i z k bytes ht hi hz hsize hby hzs hk v xs.length (xs.flatMap f) hown ⟨b, of, none⟩ 0 c [] (by simp) (by simp) (by simp) h63 hbytes hX
      refine Lib.wpList_append_run X hgd s x t t ho v _ hs hy v' w' hrun (h v' w' ?_ (hg.grown h3 fun j hj => Nat.le_trans hA (hblock j hj).1))
      rw [List.append_nil] at h2 ⊢
      exact h2
    · exact wpList_appendE hf hk hgd s x t ho e i z bytes ht hi hz hsize hby hzs h1 A X base v _ hs hy xs news hg hA hX hown (.inl ⟨b, of, c, rfl, hc, hb, hr⟩) h63 hbytes hp fun v' w' a b _ => h v' w' a b
  · have hblock := hown.block
    cases p with
    | some ad =>
      obtain ⟨v', w', hrun, h2, h3, _⟩ := run_append_own (P := P) X base t o.type e i z k bytes ht hi hz hsize hby hzs hk v xs.length (xs.flatMap f) hown ad 0 c [] (by simp) (by simp) (by simp) h63 hbytes hX
      refine Lib.wpList_append_run X hgd s x t t ho v _ hs hy v' w' hrun (h v' w' ?_ (hg.grown h3 fun j hj => Nat.le_trans hA (hblock j hj).1))
      rw [List.append_nil] at h2 ⊢
      exact h2
    | none =>
      have hrun : (Builtin.append_ #[t, t] o.type #[v, .slice none 0 c]).run P X = .ok v X := by
        rcases hown.2 with ⟨rfl, h0⟩ | ⟨g, cap, cur, rfl, hb, hg, hn, hm, hs, hq⟩
        · simp [Builtin.append_, run_underlying ht, sizeOf, typeInfo, zeroValue, hi, hz, Question.forced, run_firstCells_none, Builtin.lenOf]
        · have hcl : ¬ (cap < xs.length) := by omega
          simp [Builtin.append_, run_underlying ht, sizeOf, typeInfo, zeroValue, hi, hz, Question.forced, run_firstCells_none, Builtin.lenOf, hcl, hn, storeCells]
      refine Lib.wpList_append_run X hgd s x t t ho v _ hs hy v X hrun (h v X ?_ hg)
      rw [List.append_nil]
      exact hown
end
end Go
namespace Go.Proofs.Ytommbfgagalckaa
end Go.Proofs.Ytommbfgagalckaa
/- As Flow, where whatever steps may write, as long as what the quiet steps read stays ('C'). No program in sight. -/
namespace Go
set_option linter.unusedVariables false
set_option linter.unusedSimpArgs false
open Go.RowKit
section
variable {P : Program} {ops : Array Oper} {md : Region.Mode} {C : World → Prop}
/-- Whatever order comes, in whatever world of the class has come meanwhile. -/
def wpFlowC (P : Program) (md : Region.Mode) (ops : Array Oper) (C : World → Prop) (Q : Exit → Act → World → Prop) : Nat → Array Bool → Act → World → Prop
  | 0, listed, a, w => Region.ready md ops listed = [] ∧ ∀ w', Grew w w' → C w' → Q .normal a w'
  | f + 1, listed, a, w =>
    (Region.ready md ops listed = [] → ∀ w', Grew w w' → C w' → Q .normal a w') ∧
    ∀ i ∈ Region.ready md ops listed, ∀ w', Grew w w' → C w' → wpOp P ops Q i (fun a' w'' => C w'' ∧ wpFlowC P md ops C Q f (listed.setIfInBounds i true) a' w'') a w'
theorem wpFlowC_mono {Q : Exit → Act → World → Prop} : ∀ (f : Nat) (listed : Array Bool) (a : Act) (w w' : World), Grew w w' → wpFlowC P md ops C Q f listed a w → wpFlowC P md ops C Q f listed a w'
  | 0, _, _, _, _, hg, h => ⟨h.1, fun w'' hg' => h.2 w'' (hg.trans hg')⟩
  | f + 1, listed, a, w, w', hg, h => ⟨fun h0 w'' hg' => h.1 h0 w'' (hg.trans hg'), fun i hi w'' hg' => h.2 i hi w'' (hg.trans hg')⟩
theorem wpAny_of_flowC {Q : Exit → Act → World → Prop} : ∀ (f : Nat) (listed : Array Bool) (a : Act) (w : World), C w → wpFlowC P md ops C Q f listed a w → wpAny P md ops Q f listed a w
  | 0, _, _, w, hc, h => ⟨h.1, h.2 w (Grew.refl _) hc⟩
  | f + 1, listed, a, w, hc, h => ⟨fun h0 => h.1 h0 w (Grew.refl _) hc, fun i hi => wpOp_mono (fun a' w' h' => wpAny_of_flowC f _ a' w' h'.1 h'.2) (h.2 i hi w (Grew.refl _) hc)⟩
/-- A quiet step goes first. -/
theorem wpFlowC_first (hG : ∀ w w', C w → Grew w w' → C w') {i : Nat} {oi : Oper} {v : Value} {Q : Exit → Act → World → Prop} (hQ : ∀ c a w d v, Q (.panic c) (Act.put a d v) w → Q (.panic c) a w)
    (hi : ops[i]? = some oi) (hsel : ∀ (j : Nat) (o : Oper) cs b, ops[j]? = some o → o.op ≠ .select cs b) :
    ∀ (f : Nat) (listed : Array Bool) (a : Act) (w : World),
      (∀ j oj, ops[j]? = some oj → j ≠ i → listed.getD j true = false → (∀ e ∈ oj.after, Region.binds md e = true → e.on ≠ i) → oi.apart ops oj = true) →
      i ∈ Region.ready md ops listed → GivesIn P ops C oi v a →
      wpFlowC P md ops C Q f (listed.setIfInBounds i true) (a.put oi.dst v) w → wpFlowC P md ops C Q (f + 1) listed a w := by
  have self : ∀ (f : Nat) (listed : Array Bool) (a : Act) (w : World), GivesIn P ops C oi v a → wpFlowC P md ops C Q f (listed.setIfInBounds i true) (a.put oi.dst v) w →
      ∀ w', Grew w w' → C w' → wpOp P ops Q i (fun a' w'' => C w'' ∧ wpFlowC P md ops C Q f (listed.setIfInBounds i true) a' w'') a w' := fun f listed a w hy Hh w' hg hc =>
    wpOp_of_gives hi hy hc fun w'' hg' => ⟨hG _ _ hc hg', wpFlowC_mono f _ _ _ _ (hg.trans hg') Hh⟩
  intro f
  induction f with
  | zero =>
    intro listed a w _ hr hy Hh
    refine ⟨fun h => (by rw [h] at hr; cases hr), fun j hj => ?_⟩
    by_cases hji : j = i
    · subst hji; exact self 0 listed a w hy Hh
    · have := ready_mono hj hji
      rw [Hh.1] at this
      cases this
  | succ f ih =>
    intro listed a w hfree hr hy Hh
    refine ⟨fun h => (by rw [h] at hr; cases hr), fun j hj => ?_⟩
    by_cases hji : j = i
    · subst hji; exact self (f + 1) listed a w hy Hh
    · have h1 := Hh.2 j (ready_mono hj hji)
      obtain ⟨hjun, oj, hoj, hall⟩ := mem_ready.1 hj
      have hun := (mem_ready.1 hr).1
      have hnot : ∀ e ∈ oj.after, Region.binds md e = true → e.on ≠ i := fun e he hb heq => by
        have h1 := hall e he hb
        rw [heq, getD_both hun] at h1
        cases h1
      have hfree' : ∀ k ok, ops[k]? = some ok → k ≠ i → (listed.setIfInBounds j true).getD k true = false →
          (∀ e ∈ ok.after, Region.binds md e = true → e.on ≠ i) → oi.apart ops ok = true := fun k ok hk hki hun hno => by
        refine hfree k ok hk hki ?_ hno
        by_cases hjk : j = k
        · subst hjk; exact hjun
        · rw [getD_set_ne true hjk] at hun; exact hun
      have hap := hfree j oj hoj hji hjun hnot
      intro w' hg hc
      have h2 := wpOp_putG hoj hap (fun cs b => hsel i oi cs b hi) (fun cs b => hsel j oj cs b hoj) hQ hy (h1 w' hg hc)
      refine wpOp_mono (fun a' w'' h3 => ⟨h3.2.1, ih (listed.setIfInBounds j true) a' w'' hfree' (ready_mono hr (Ne.symm hji)) h3.1 ?_⟩) h2
      rw [Array.setIfInBounds_comm _ _ hji]
      exact h3.2.2
theorem wpFlowC_lex (hG : ∀ w w', C w → Grew w w' → C w') {Q : Exit → Act → World → Prop} {A : Act} (hQ : ∀ c a w d v, Q (.panic c) (Act.put a d v) w → Q (.panic c) a w) (hsel : Region.noSelect ops = true) {w : World} (f : Nat) :
    ∀ (qs : List Nat) (listed : Array Bool) (a : Act), wpFlowC P md ops C Q f (Region.listAll listed qs) A w → Region.flowLex md ops qs listed = true → givesAll P ops C A qs a → wpFlowC P md ops C Q (qs.length + f) listed a w
  | [], listed, a, hE, _, h => by
    simp only [givesAll] at h
    subst h
    rw [List.length_nil, Nat.zero_add]
    exact hE
  | k :: qs, listed, a, hE, hB, h => by
    simp only [Region.flowLex, Bool.and_eq_true] at hB
    obtain ⟨⟨hr, hf⟩, hB'⟩ := hB
    obtain ⟨o, d, ho', hd, hy, hk⟩ := h
    have hr' : k ∈ Region.ready md ops listed := by simpa using hr
    rw [List.length_cons, show qs.length + 1 + f = qs.length + f + 1 by omega]
    refine wpFlowC_first hG hQ ho' (Region.noSelect_spec hsel) _ listed a w (Region.free_spec ho' hf) hr' hy ?_
    rw [hd]
    exact wpFlowC_lex hG hQ hsel f qs _ _ hE hB' hk
end
section
variable {P : Program} {l : List Oper} {Q : Exit → Act → World → Prop} {C : World → Prop}
/-- Quiet steps, in the text's order. -/
theorem wpFlowC_quiets (qs : List Nat) (hG : ∀ w w', C w → Grew w w' → C w') (hne : ∃ Y, C Y) {n : Nat} {listed : Array Bool} {a : Act} {w : World} (hn : decide (qs.length ≤ n) = true)
    (hB : (Region.noSelect l.toArray && Region.flowLex .any l.toArray qs listed && envOk qs l.length) = true) (hD : envDsts qs l.toArray a.tmps.size = true)
    (hQ : ∀ c a w d v, Q (.panic c) (Act.put a d v) w → Q (.panic c) a w) (V : Act)
    (hq : ∀ A, Hid (A = V) → ∀ Y, C Y → wpQuiet P l.toArray (fun w' => ∃ n, w' = Y.grow n) (fun a' => a' = A) (pickOps l qs) a)
    (h : wpFlowC P .any l.toArray C Q (n - qs.length) (Region.listAll listed qs) V w) : wpFlowC P .any l.toArray C Q n listed a w := by
  simp only [Bool.and_eq_true] at hB
  obtain ⟨⟨hsel, hlex⟩, hok⟩ := hB
  obtain ⟨f, rfl⟩ : ∃ f, n = qs.length + f := ⟨n - qs.length, by have := of_decide_eq_true hn; omega⟩
  rw [Nat.add_sub_cancel_left] at h
  exact wpFlowC_lex hG hQ hsel f qs listed a h hlex (givesAll_of_quiet (H := C) hne qs (pickOps l qs) a (map_pick l qs hok) hD (fun Y hY => hq V (rfl : V = V) Y hY))
/-- The steps that are ready: one of them, in some world behind. -/
def wpFlowCS (P : Program) (l : List Oper) (C : World → Prop) (Q : Exit → Act → World → Prop) (x : Nat) (listed : Array Bool) (k : Nat) (a : Act) (w : World) : Prop :=
  ∀ δ, C (w.grow δ) → wpList P l.toArray (Exit.then (fun a' w'' => C w'' ∧ wpFlowC P .any l.toArray C Q x (listed.setIfInBounds k true) a' w'') Q) (pickOps l [k]) a (w.grow δ)
theorem wpFlowC_of {x : Nat} {listed : Array Bool} {a : Act} {w : World} (rs : List Nat) (hx : decide (0 < x) = true) (hr : Region.ready .any l.toArray listed = rs) (hne : rs.isEmpty = false) (hk : envOk rs l.length = true)
    (h : ∀ k ∈ rs, wpFlowCS P l C Q (x - 1) listed k a w) : wpFlowC P .any l.toArray C Q x listed a w := by
  obtain ⟨f, rfl⟩ : ∃ f, x = f + 1 := ⟨x - 1, by have := of_decide_eq_true hx; omega⟩
  refine ⟨fun h0 => (by rw [hr] at h0; rw [h0] at hne; cases hne), fun k hkr w' hg hc => ?_⟩
  rw [hr] at hkr
  have hlt : k < l.length := by
    unfold envOk at hk
    simpa using List.all_eq_true.1 hk k hkr
  obtain ⟨δ, rfl⟩ := hg
  exact wpOp_of_list hlt (h k hkr δ hc)
theorem wpFlowC_one {x : Nat} {listed : Array Bool} {a : Act} {w : World} (k : Nat) (hx : decide (0 < x) = true) (hr : Region.ready .any l.toArray listed = [k]) (hk : envOk [k] l.length = true) (h : wpFlowCS P l C Q (x - 1) listed k a w) :
    wpFlowC P .any l.toArray C Q x listed a w := wpFlowC_of [k] hx hr rfl hk (by intro i hi; simp only [List.mem_singleton] at hi; subst hi; exact h)
theorem wpFlowC_two {x : Nat} {listed : Array Bool} {a : Act} {w : World} (k m : Nat) (hx : decide (0 < x) = true) (hr : Region.ready .any l.toArray listed = [k, m]) (hk : envOk [k, m] l.length = true) (h : wpFlowCS P l C Q (x - 1) listed k a w) (h2 : wpFlowCS P l C Q (x - 1) listed m a w) :
    wpFlowC P .any l.toArray C Q x listed a w := wpFlowC_of [k, m] hx hr rfl hk (by
  intro i hi; simp only [List.mem_cons, List.not_mem_nil, or_false] at hi
  rcases hi with rfl | rfl
  · exact h
  · exact h2)
theorem wpFlowC_three {x : Nat} {listed : Array Bool} {a : Act} {w : World} (k m n : Nat) (hx : decide (0 < x) = true) (hr : Region.ready .any l.toArray listed = [k, m, n]) (hk : envOk [k, m, n] l.length = true) (h : wpFlowCS P l C Q (x - 1) listed k a w) (h2 : wpFlowCS P l C Q (x - 1) listed m a w) (h3 : wpFlowCS P l C Q (x - 1) listed n a w) :
    wpFlowC P .any l.toArray C Q x listed a w := wpFlowC_of [k, m, n] hx hr rfl hk (by
  intro i hi; simp only [List.mem_cons, List.not_mem_nil, or_false] at hi
  rcases hi with rfl | rfl | rfl
  · exact h
  · exact h2
  · exact h3)
theorem wpFlowC_end {x : Nat} {listed : Array Bool} {a : Act} {w : World} (hx : decide (x = 0) = true) (hr : (Region.ready .any l.toArray listed).isEmpty = true) (h : ∀ δ, C (w.grow δ) → Q .normal a (w.grow δ)) : wpFlowC P .any l.toArray C Q x listed a w := by
  obtain rfl := of_decide_eq_true hx
  exact ⟨by simpa using hr, fun w' ⟨δ, h'⟩ => h' ▸ h δ⟩
theorem wp_region_flowC (C : World → Prop) {id : Nat} {a : Act} {w : World} (hG : ∀ w w', C w → Grew w w' → C w') (h0 : C w) (hm : P.follows .mixedOrders = true) (h : ∀ δ, wpFlowC P .any l.toArray C Q l.length (Array.replicate l.length false) a (w.grow δ)) : (Code.region id l.toArray true).wp P Q a w := by
  have h1 := h ⟨#[], w.drawn + 1⟩
  rw [← drew_is_grow] at h1
  refine wp_region_any hm (wpAny_of_flowC _ _ _ _ (hG _ _ h0 ⟨_, drew_is_grow w⟩) ?_)
  simpa using h1
theorem flowC_abs {md : Region.Mode} {ops : Array Oper} {f : Nat} {li : Array Bool} {a : Act} {X : World} (h : ∀ Y, Y = X → wpFlowC P md ops C Q f li a Y) : wpFlowC P md ops C Q f li a X := h X rfl
end
section
variable {P : Program} {l : List Oper} {Q : Exit → Act → World → Prop} {esc : List Nat}
/-- Of two steps that are ready the second one writes. -/
theorem wpFlowX_twoE {x : Nat} {listed : Array Bool} {a : Act} {w : World} (k m : Nat) (hx : decide (0 < x) = true) (hr : (Region.ready .any l.toArray listed = [k, m] ∨ Region.ready .any l.toArray listed = [m, k])) (hk : decide (k < l.length ∧ m < l.length) = true) (he : esc.contains k = false) (he2 : esc.contains m = true)
    (h1 : wpFlowXS P l esc Q (x - 1) listed k a w) (h2 : ∀ δ, wpList P l.toArray (Exit.then (fun a' w'' => wpAny P .any l.toArray Q (x - 1) (listed.setIfInBounds m true) a' w'') Q) (pickOps l [m]) a (w.grow δ)) : wpFlowX P .any l.toArray esc Q x listed a w := by
  obtain ⟨f, rfl⟩ : ∃ f, x = f + 1 := ⟨x - 1, by have := of_decide_eq_true hx; omega⟩
  have hk := of_decide_eq_true hk
  refine ⟨fun h0 => (by rcases hr with hr | hr <;> (rw [hr] at h0; cases h0)), fun i hi w' hg => ?_⟩
  have hi : i = k ∨ i = m := by
    rcases hr with hr | hr <;> (rw [hr] at hi; simp only [List.mem_cons, List.not_mem_nil, or_false] at hi; omega)
  obtain ⟨δ, rfl⟩ := hg
  rcases hi with rfl | rfl
  · simp only [he, Bool.false_eq_true, if_false]
    exact wpOp_of_list hk.1 (h1 δ)
  · simp only [he2, if_true]
    exact wpOp_of_list hk.2 (h2 δ)
end
/-- What lay in 'Z' lies as it lay, but for the block of 'v'. -/
def KeepsX (Z : World) (v : Value) (W : World) : Prop := Z.heap.size ≤ W.heap.size ∧ ∀ b, b < Z.heap.size → v.ownBlock ≠ some b → W.heap[b]? = Z.heap[b]?
theorem KeepsX.refl (Z : World) (v : Value) : KeepsX Z v Z := ⟨Nat.le_refl _, fun _ _ _ => rfl⟩
theorem KeepsX.grew (Z : World) (v : Value) (W W' : World) (h : KeepsX Z v W) (g : Grew W W') : KeepsX Z v W' := ⟨Nat.le_trans h.1 g.size, fun b hb hn => (g.heap (Nat.lt_of_lt_of_le hb h.1)).trans (h.2 b hb hn)⟩
theorem KeepsX.grown {Z W W' : World} {v : Value} (h : KeepsX Z v W) (g : W.grownBy W' v.ownBlock) : KeepsX Z v W' := ⟨Nat.le_trans h.1 g.size, fun b hb hn => (g.block b (Nat.lt_of_lt_of_le hb h.1) (fun e => hn e.symm)).trans (h.2 b hb hn)⟩
theorem KeepsX.setRow {Z W : World} {v : Value} (h : KeepsX Z v W) (g : Nat) (cs : Array Value) (hg : Z.heap.size ≤ g) : KeepsX Z v (W.setRow g cs) := ⟨by rw [setRow_size]; exact h.1, fun b hb hn => (Go.Proofs.Ytommbfgagalckaa.World.heap_setRow_ne W g cs b (by omega)).trans (h.2 b hb hn)⟩
theorem KeepsX.heap {Z W : World} {v : Value} (h : KeepsX Z v W) {b : Nat} (hb : b < Z.heap.size) (hn : v.ownBlock ≠ some b) : W.heap[b]? = Z.heap[b]? := h.2 b hb hn
theorem KeepsX.rowAt {Z W : World} {v : Value} (h : KeepsX Z v W) {b : Nat} (hb : b < Z.heap.size) (hn : v.ownBlock ≠ some b) : W.rowAt b = Z.rowAt b := rowAt_of_heap (h.2 b hb hn)
theorem KeepsX.rowFree {Z W : World} {v : Value} (h : KeepsX Z v W) {b : Nat} (hb : b < Z.heap.size) (hn : v.ownBlock ≠ some b) : W.rowFree b = Z.rowFree b := rowFree_of_heap (h.2 b hb hn)
theorem KeepsX.cell {Z W : World} {v : Value} (h : KeepsX Z v W) {p : Addr} {u : Value} (hc : Z.cell? p = some u) (hn : v.ownBlock ≠ some p.block) : W.cell? p = some u := (World.cell?_of_block (h.2 _ (World.block_lt_of_cell? _ p hc) hn)).trans hc
/-- What lay in 'Z' lies as it lay, but for the blocks of 'S'. -/
def KeepsP (Z : World) (S : Nat → Prop) (W : World) : Prop := Z.heap.size ≤ W.heap.size ∧ ∀ b, b < Z.heap.size → ¬ S b → W.heap[b]? = Z.heap[b]?
theorem KeepsP.refl (Z : World) (S : Nat → Prop) : KeepsP Z S Z := ⟨Nat.le_refl _, fun _ _ _ => rfl⟩
theorem KeepsP.grew (Z : World) (S : Nat → Prop) (W W' : World) (h : KeepsP Z S W) (g : Grew W W') : KeepsP Z S W' := ⟨Nat.le_trans h.1 g.size, fun b hb hn => (g.heap (Nat.lt_of_lt_of_le hb h.1)).trans (h.2 b hb hn)⟩
theorem KeepsP.grown {Z W W' : World} {S : Nat → Prop} {r : Option Nat} (h : KeepsP Z S W) (g : W.grownBy W' r) (hr : ∀ k, r = some k → S k ∨ Z.heap.size ≤ k) : KeepsP Z S W' := ⟨Nat.le_trans h.1 g.size, fun b hb hn => (g.block b (Nat.lt_of_lt_of_le hb h.1) (fun e => by rcases hr b e.symm with h1 | h1; exact hn h1; omega)).trans (h.2 b hb hn)⟩
theorem KeepsP.setRow {Z W : World} {S : Nat → Prop} (h : KeepsP Z S W) (g : Nat) (cs : Array Value) (hg : S g ∨ Z.heap.size ≤ g) : KeepsP Z S (W.setRow g cs) := h.grown (Go.Proofs.Ytommbfgagalckaa.grownBy_setRow W g cs) (fun k e => by cases e; exact hg)
theorem KeepsP.heap {Z W : World} {S : Nat → Prop} (h : KeepsP Z S W) {b : Nat} (hb : b < Z.heap.size) (hn : ¬ S b) : W.heap[b]? = Z.heap[b]? := h.2 b hb hn
theorem KeepsP.rowAt {Z W : World} {S : Nat → Prop} (h : KeepsP Z S W) {b : Nat} (hb : b < Z.heap.size) (hn : ¬ S b) : W.rowAt b = Z.rowAt b := rowAt_of_heap (h.2 b hb hn)
theorem KeepsP.rowFree {Z W : World} {S : Nat → Prop} (h : KeepsP Z S W) {b : Nat} (hb : b < Z.heap.size) (hn : ¬ S b) : W.rowFree b = Z.rowFree b := rowFree_of_heap (h.2 b hb hn)
theorem KeepsP.cell {Z W : World} {S : Nat → Prop} (h : KeepsP Z S W) {p : Addr} {u : Value} (hc : Z.cell? p = some u) (hn : ¬ S p.block) : W.cell? p = some u := (World.cell?_of_block (h.2 _ (World.block_lt_of_cell? _ p hc) hn)).trans hc
end Go
/- The cells of an id. -/
namespace Go.Proofs.Ytommbfgagalckaa
set_option linter.unusedVariables false
set_option linter.unusedSimpArgs false
open Go.ChangeShapes Go.WideShapes Go.ChangeAt Go.RowKit
set_option maxRecDepth 100000
/-- The cells of an id, read. -/
theorem cells_id {H : Type} {enc : TypeId × Value → H} {W : World} {base : Nat} {sp : Nat → Bool} {fuel : Nat} {cs : List Value} {d : DataW H × List MemPlace}
    (hn : cs.length = 32) (hf : DataW.trod enc Try.prog W base sp true fuel 23 cs = some d) : ∃ x : Idb, cs = x.cs := by
  obtain ⟨xs, m, rfl, hx, hl, hn2, hel⟩ := DataW.trod_array under_id hf
  rw [cells8] at hel
  obtain ⟨l, e1, e2, e3⟩ := bytes_of_trod (cs := cs) (xs := xs) (by rw [hn2, hn]) (fun i hi => by
    have := hel i (by omega)
    simpa using this)
  exact ⟨⟨l, by rw [e1] at hn; simpa using hn, e2⟩, e1⟩
end Go.Proofs.Ytommbfgagalckaa
