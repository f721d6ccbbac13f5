/- sha.Sum. -/
import Derived.Test.YtmnnmndnpkanlaaSha3
import Derived.Test.YtmnnmndnpkanlaaPad
import Derived.Test.YtmnnmndnpkanlaaChunk2
import Derived.Test.YtmnnmndnpkanlaaSumMath
import Derived.Test.YtmnnmndnpkanlaaIdEq
namespace Go.Proofs.Ytmnnmndnpkanlaa
set_option linter.unusedVariables false
set_option linter.unusedSimpArgs false
open Go.RowKit Go.Shelf
attribute [local go_sem] Oper.semAt_some
theorem pad_o (l : List Nat) (v : Value) (w : World) (hl : l.length ≤ 1073741824) (hv : Shows w v (bys l)) :
    Calls Try.prog 10 #[v] w fun e w' => ∃ b cap K, e = .returned (.slice (some ⟨b, 0, none⟩) (64 * K) cap) ∧ 64 * K = (pad l).length ∧ 64 * K ≤ cap ∧ cap ≤ maxLen ∧ w.heap.size ≤ b ∧ b < w'.heap.size ∧
      (∀ j, j < 64 * K → w'.cell? ⟨b, 0 + j, none⟩ = some (.int .u8 (byteAt (pad l) j : Nat))) ∧ Grew w w' := by
  refine (pad_w' l v w hl hv).mono ?_
  rintro e w' ⟨v', rfl, ho, hg⟩
  obtain ⟨K, hK⟩ : ∃ K, (pad l).length = 64 * K := ⟨(pad l).length / 64, by have := pad_mod l; omega⟩
  have hp := pad_len l
  rcases ho.2 with ⟨rfl, h0⟩ | ⟨b, cap, cur, rfl, hb, hh, hn, hm, hs, ht⟩
  · rw [bys_len] at h0; omega
  · rw [bys_len, hK] at ho hn ⊢
    refine ⟨b, cap, K, rfl, rfl, hn, hm, hb, (Array.getElem?_eq_some_iff.1 hh).1, fun j hj => ?_, hg⟩
    rw [Nat.zero_add, own_cell ho j (by rw [bys_len]; omega)]
    simp [bys, byteAt_eq _ j (show j < (pad l).length by omega)]
theorem own_grew {β : Type} (B : Nat) (f : β → World) (hB : ∀ s, (f s).heap.size = B) : OwnFrom B (fun s W => Grew (f s) W) := fun s W W' row hs hg hr => by
  have hb : Below (f s).heap.size (f s) W := hs.below
  exact Grew.of_below (hb.grown hg hb.size (fun k e => by rw [hB]; exact (hr k e).1))
theorem heap_setRow_other (w : World) (g : Nat) (cs : Array Value) (k : Nat) (h : k ≠ g) : (w.setRow g cs).heap[k]? = w.heap[k]? := by
  unfold World.setRow
  simp [Array.getElem?_modify, Ne.symm h]
/-- One part goes in. -/
theorem part_step (A W W' : World) (g B : Nat) (v v' : Array Value) (hg : g < A.heap.size) (hB : B = A.heap.size) (hf : A.rowFree g = true) (h : Grew (A.setRow g v) W) (h' : Grew (W.setRow g v') W') :
    KeepsFrom B W W' ∧ KeptBut g B W W' ∧ Grew (A.setRow g v') W' := by
  subst hB
  have hs : (A.setRow g v).heap.size = A.heap.size := setRow_size _ _ _
  have hW : g < W.heap.size := Nat.lt_of_lt_of_le hg (hs ▸ h.size)
  have key : ∀ k, k < W.heap.size → k ≠ g → W'.heap[k]? = W.heap[k]? := fun k hk hne => by
    rw [h'.heap (by rw [setRow_size]; exact hk), heap_setRow_other _ _ _ _ hne]
  refine ⟨⟨by have := h'.size; rw [setRow_size] at this; exact this, fun k o hk h0 ho => ?_⟩, fun k hk hne => key k (Nat.lt_of_lt_of_le hk (hs ▸ h.size)) hne, ?_⟩
  · rw [key k (Array.getElem?_eq_some_iff.1 h0).1 (by omega)]; exact h0
  · have h2 := Grew.setRow_old h g v' (by rw [hs]; exact hg)
    rw [setRow_setRow] at h2
    exact h2.trans h'
set_option maxRecDepth 100000 in
set_option maxHeartbeats 4000000 in
theorem sum_in (F : Fence) (n : Nat) (l : List Nat) (hF : F = .wide) (hn : 3 ≤ n) (v : Value) (w : World) (hl : l.length ≤ 1073741824) (hb : ∀ c ∈ l, c < 256) (hv : Shows w v (bys l)) :
    CallsIn F n Try.prog 12 #[v] w fun e w' => e = .returned (.agg (iv (sum l))) ∧ Grew w w' := by
  have h1 : 1 ≤ n := by omega
  have HV := Lib.hid hv
  clear hv
  refine callsIn_of_wp_marks Try.func12 rfl (by subst hF; trivial) ?_ (by subst hF; rfl)
  simp only [Try.ntmps12, List.size_toArray, List.length_cons, List.length_nil, Nat.reduceAdd, Nat.reduceSub, Array.replicate_succ, Array.replicate_zero, List.push_toArray, List.append_toArray, List.nil_append, List.cons_append]
  gi_wp2
  obtain ⟨w1, hw1⟩ : ∃ w1, ((w.alloc (Obj.cells (iv id0) 26)).alloc (Obj.cells (uv words0) 41)).alloc (Obj.cells #[.pointer (some ⟨w.heap.size + 1, 0, none⟩)] 38) = w1 := ⟨_, rfl⟩
  have hgw : Grew w w1 := by rw [← hw1]; exact (by repeat (first | with_reducible exact Grew.refl _ | with_reducible apply Grew.alloc | with_reducible apply Grew.grow | with_reducible apply Grew.drew | with_reducible apply Grew.drewN))
  have hsz : w1.heap.size = w.heap.size + 1 + 1 + 1 := by rw [← hw1]; simp
  have r1 : w1.rowAt w.heap.size = iv id0 ∧ w1.rowFree w.heap.size = true := by rw [← hw1]; constructor <;> simp [go_sem]
  have r2 : w1.rowAt (w.heap.size + 1) = uv words0 ∧ w1.rowFree (w.heap.size + 1) = true := by rw [← hw1]; constructor <;> simp [go_sem]
  have r3 : w1.cell? ⟨w.heap.size + 1 + 1, 0, none⟩ = some (.pointer (some ⟨w.heap.size + 1, 0, none⟩)) := by rw [← hw1]; simp [go_sem]
  have hwe : ((w.alloc (Obj.cells (iv id0) 26)).alloc (Obj.cells #[.int .u32 1779033703, .int .u32 3144134277, .int .u32 1013904242, .int .u32 2773480762, .int .u32 1359893119, .int .u32 2600822924, .int .u32 528734635, .int .u32 1541459225] 41)).alloc (Obj.cells #[.pointer (some ⟨w.heap.size + 1, 0, none⟩)] 38) = w1 := by
    rw [← hw1]; rfl
  rw [hwe]
  clear hw1 hwe
  refine ⟨trivial, (callsIn_wide.2 (pad_o l v w1 hl (HV.out.grew hgw))).mono ?_⟩
  rintro e w2 ⟨b, cap, K, rfl, hKl, hKc, hcap, hb1, hb2, hcs, hg12⟩
  obtain ⟨N, hN⟩ : ∃ N, 64 * K = N := ⟨_, rfl⟩
  have hg2 := hgw.trans hg12
  have hK : K ≤ 100000000 := by have := pad_len l; omega
  have q1 : w2.rowAt w.heap.size = iv id0 := by rw [Grew.rowAt hg12 _ (by omega)]; exact r1.1
  have q2 : w2.rowFree w.heap.size = true := by rw [Grew.rowFree hg12 _ (by omega)]; exact r1.2
  have q3 : w2.rowAt (w.heap.size + 1) = uv words0 := by rw [Grew.rowAt hg12 _ (by omega)]; exact r2.1
  have q4 : w2.rowFree (w.heap.size + 1) = true := by rw [Grew.rowFree hg12 _ (by omega)]; exact r2.2
  have q5 := hg12.cell r3
  have hs12 := hg12.size
  obtain ⟨r0, hr0⟩ : ∃ r0, w.heap.size = r0 := ⟨_, rfl⟩
  have HCS := Lib.hid hcs
  have HK := Lib.hid (And.intro hN (And.intro hKl hKc))
  rw [hN]
  clear hKl hKc hN
  have HG2 := Lib.hid hg2
  have Q := Lib.hid (And.intro q1 (And.intro q2 (And.intro q3 (And.intro q4 q5))))
  clear r1 r2 r3 q1 q2 q3 q4 q5 hcs hg2 hg12 hgw
  gi_wp2
  refine ⟨trivial, (chunk_in .wide (n - 1) trivial rfl _ _ _ _).mono ?_⟩
  rintro e w3 ⟨rfl, hw3⟩
  obtain ⟨q1, q2, q3, q4, q5⟩ := Q.out
  have hs3 : w3.heap.size = w2.heap.size + 1 + 1 := by rw [hw3]; simp
  have hg23 : Grew w2 w3 := by rw [hw3]; exact (by repeat (first | with_reducible exact Grew.refl _ | with_reducible apply Grew.alloc | with_reducible apply Grew.grow | with_reducible apply Grew.drew | with_reducible apply Grew.drewN))
  have hg3 := Lib.hid (HG2.out.trans hg23)
  have c1 : w3.cell? ⟨w2.heap.size, 0, none⟩ = some (.slice (some ⟨b, 0, none⟩) N cap) := by rw [hw3]; simp [go_sem]
  have c2 : w3.cell? ⟨w2.heap.size + 1, 0, none⟩ = some (.int .i64 64) := by rw [hw3]; simp [go_sem]
  have HCS3 := Lib.hid (fun j hj => hg23.cell (HCS.out j hj))
  have p1 : w3.rowAt w.heap.size = iv id0 := by rw [Grew.rowAt hg23 _ (by omega)]; exact q1
  have p2 : w3.rowFree w.heap.size = true := by rw [Grew.rowFree hg23 _ (by omega)]; exact q2
  have p3 : w3.rowAt (w.heap.size + 1) = uv words0 := by rw [Grew.rowAt hg23 _ (by omega)]; exact q3
  have p4 : w3.rowFree (w.heap.size + 1) = true := by rw [Grew.rowFree hg23 _ (by omega)]; exact q4
  have p5 := hg23.cell q5
  clear hw3 hg23 q1 q2 q3 q4 q5 Q HCS HG2
  rw [hr0] at p1 p2 p3 p4 p5 hsz
  have HR0 := Lib.hid hr0
  clear hr0
  gi_wp2
  refine wpIn_rangeFunc_ownG (by subst hF; rfl) h1 (gf := 25) (lb := #[.pointer (some ⟨w2.heap.size, 0, none⟩), .pointer (some ⟨w2.heap.size + 1, 0, none⟩)]) rfl (by subst hF; trivial) (enters_of Try.func25 (by kernel_rfl) rfl)
    (chunk_stops F (n - 1) (by subst hF; trivial) (by subst hF; rfl) (by omega) w2.heap.size (w2.heap.size + 1) (r0 + 1) w3.heap.size b 0 K cap hK (by omega) (by omega) (by omega) (by omega) (by omega) (by omega) w3 (Nat.le_refl _) (by rw [HK.out.1]; exact c1) c2 HK.out.2.2 hcap)
    (fun h k => h.trans k) (fun W l o o' hl h _ _ k hk hne => World.putObj_heap_other (by omega)) (Below.refl _ _) (fun _ => rfl)
    (fun pre W => Grew (w3.setRow (r0 + 1) (uv (sumOf (pad l) (pre.map (·.1))))) W) (fun _ _ _ => False) (own_grew _ _ (fun _ => setRow_size _ _ _)) (fun _ _ _ _ _ hs _ _ => hs)
    (by rw [show sumOf (pad l) (List.map (·.1) ([] : List (Part K))) = words0 from rfl, ← p3, setRow_same' _ _ p4]; exact Grew.refl _)
    (fun x => { tmps := #[v, undef, .pointer (some ⟨r0, 0, none⟩), .pointer (some ⟨r0 + 1 + 1, 0, none⟩), .slice (some ⟨b, 64 * x.1, none⟩) 64 64, undef, undef, .agg #[.int .u32 1779033703, .int .u32 3144134277, .int .u32 1013904242, .int .u32 2773480762, .int .u32 1359893119, .int .u32 2600822924, .int .u32 528734635, .int .u32 1541459225], .pointer (some ⟨r0 + 1, 0, none⟩), v, .slice (some ⟨b, 0, none⟩) N cap, .func (.func 25) #[] #[.pointer (some ⟨w2.heap.size, 0, none⟩), .pointer (some ⟨w2.heap.size + 1, 0, none⟩)], .slice (some ⟨b, 64 * x.1, none⟩) 64 64, undef, undef, undef, undef, undef, undef, undef, undef, undef, undef, undef, undef, undef, undef, undef, undef, undef, undef, undef, undef, undef, undef], defers := [] }) ?assign ?body ?done ?stop
  case assign =>
    intro l x W K hK
    gi_wp2
    exact hK
  case body =>
    rintro lb pre x W hI hlen
    subst hF
    obtain ⟨S, hS⟩ : ∃ S, sumOf (pad l) (pre.map (·.1)) = S := ⟨_, rfl⟩
    rw [hS] at hI
    have i1 : W.cell? ⟨r0 + 1 + 1, 0, none⟩ = some (.pointer (some ⟨r0 + 1, 0, none⟩)) := hI.cell (by rw [cell_setRow_other _ _ _ _ (by simp)]; exact p5)
    have i2 : W.rowAt (r0 + 1) = uv S := by rw [Grew.rowAt hI _ (by rw [setRow_size]; omega), rowAt_setRow_free _ _ _ p4]
    have i3 : W.rowFree (r0 + 1) = true := by rw [Grew.rowFree hI _ (by rw [setRow_size]; omega), rowFree_setRow_free _ _ _ p4]
    have hSl : S.length = 8 := by rw [← hS]; exact sumOf_len _ _
    have i4 : ∀ j, j < 64 → W.cell? ⟨b, 64 * x.1 + j, none⟩ = some (.int .u8 (byteAt ((pad l).drop (64 * x.1)) j : Nat)) := fun j hj => by
      rw [byteAt_drop]
      refine hI.cell ?_
      rw [cell_setRow_other _ _ _ _ (by show b ≠ _; omega)]
      have := HCS3.out (64 * x.1 + j) (by have := x.2; omega)
      rwa [Nat.zero_add] at this
    have HI := Lib.hid hI
    clear hI p1 p2 p3 c1 c2 hcap
    gi_wp2
    refine ⟨trivial, fun _ => by omega, (CallsIn.inRound lb (callsIn_wide.2 (add_w S ((pad l).drop (64 * x.1)) hSl (fun c hc => pad_lt l hb c (List.mem_of_mem_drop hc)) (r0 + 1) b (64 * x.1) 64 W i2 i3 (by omega) i4))).mono ?_⟩
    rintro e W' ⟨⟨u, rfl⟩, hg'⟩
    gi_wp2
    obtain ⟨k1, k2, k3⟩ := part_step w3 W W' (r0 + 1) w3.heap.size _ _ (by omega) rfl p4 HI.out hg'
    refine ⟨k1, k2, ?_⟩
    show Grew (w3.setRow (r0 + 1) (uv (sumOf (pad l) ((pre ++ [x]).map (·.1))))) W'
    rw [List.map_append, List.map_cons, List.map_nil, sumOf_snoc, hS]
    exact k3
  case done =>
    rintro D ys W hD hS hI HDD
    rw [hS, sumOf_range] at hI
    obtain ⟨S, hS2⟩ : ∃ S, sumk (pad l) K = S := ⟨_, rfl⟩
    rw [hS2] at hI
    have i1 : W.cell? ⟨r0 + 1 + 1, 0, none⟩ = some (.pointer (some ⟨r0 + 1, 0, none⟩)) := hI.cell (by rw [cell_setRow_other _ _ _ _ (by simp)]; exact p5)
    have i2 : W.rowAt (r0 + 1) = uv S := by rw [Grew.rowAt hI _ (by rw [setRow_size]; omega), rowAt_setRow_free _ _ _ p4]
    have i3 : W.rowFree (r0 + 1) = true := by rw [Grew.rowFree hI _ (by rw [setRow_size]; omega), rowFree_setRow_free _ _ _ p4]
    have hSl : S.length = 8 := by rw [← hS2, ← sumOf_range]; exact sumOf_len _ _
    have i5 : W.rowAt r0 = iv id0 := by rw [Grew.rowAt hI _ (by rw [setRow_size]; omega), rowAt_of_heap (heap_setRow_other _ _ _ _ (by omega))]; exact p1
    have i6 : W.rowFree r0 = true := by rw [Grew.rowFree hI _ (by rw [setRow_size]; omega), rowFree_of_heap (heap_setRow_other _ _ _ _ (by omega))]; exact p2
    have hgW : Grew w W := (Grew.setRow_new hg3.out (r0 + 1) _ (by have := HR0.out; omega)).trans hI
    have hsW : w3.heap.size ≤ W.heap.size := by have := hI.size; rw [setRow_size] at this; exact this
    have HGW := Lib.hid hgW
    have l0 : r0 < W.heap.size := by omega
    have l1 : r0 + 1 < W.heap.size := by omega
    have l2 : r0 + 1 + 1 < W.heap.size := by omega
    have i7 := fun (j : Nat) => show W.cell? ⟨r0 + 1, j, none⟩ = (uv S)[j]? by rw [cell_rowAt, i2]
    have HS := Lib.hid hS2
    clear hI p1 p2 p3 p4 p5 c1 c2 hcap hgW hS2 hS hg3 HCS3
    gi_wp2
    gi_loopw [16] (fun i wr => ∃ k : Nat, k ≤ 32 ∧ i = .int .i64 k ∧ wr = W.alloc (.cells (iv (outk S k)) 26)) (fun i _ => 32 - (intOf i).toNat)
    case atStart => exact ⟨0, by omega, rfl, by rw [outk_0]⟩
    case round =>
      obtain ⟨k, hk, rfl, rfl⟩ := hrel
      by_cases hn2 : k < 32
      · have hlt : (k : Int) < 32 := by omega
        have ho := outk_len S k
        have hos := outk_set S k
        obtain ⟨q, hq⟩ : ∃ q, 24 - 8 * (k % 4) = q := ⟨_, rfl⟩
        have hq1 : (24 : Int) - 8 * ((k : Int) % 4) = (q : Int) := by omega
        obtain ⟨q4, hq4⟩ : ∃ q4, k / 4 = q4 := ⟨_, rfl⟩
        have hd : (k : Int) / 4 = (q4 : Int) := by omega
        have hd2 : q4 < 8 := by omega
        have hd3 : (q4 : Int) < 8 := by omega
        have hu := uv_at S q4 (by omega)
        have hq5 : q ≤ 24 := by omega
        have hwb : u (wordAt S q4) / 2 ^ q % 256 = ((wordByte S k : Nat) : Int) := by
          unfold wordByte u; rw [hq, hq4, Int.natCast_emod, Int.natCast_ediv, Int.natCast_pow]; rfl
        have hat := iv_at (outk S k) k (by rw [ho]; omega)
        clear hk hn2 hq hq4
        gi_wp2
        exact ⟨⟨k + 1, by omega, by go_num, rfl⟩, by simp only [intOf]; omega⟩
      · obtain rfl : k = 32 := by omega
        clear hk hn2
        have ho := outk_len S 32
        gi_wp2
        have hDW : D < W.heap.size := (Array.getElem?_eq_some_iff.1 HDD).1
        have hDr : D ≠ r0 := by omega
        have e0 : w.heap.size = r0 := HR0.out
        have hD2 : ((W.setRow r0 (iv (outk S 32))).alloc (.cells (iv (outk S 32)) 26)).heap[D]? = some (.deferred (some [])) := by
          rw [Go.heap_alloc_old _ _ (by rw [setRow_size]; exact hDW), heap_setRow_other _ _ _ _ hDr]; exact HDD
        refine ⟨by simp, .inl ⟨_, _, rfl, run_takeDeferred hD2, ?_⟩⟩
        refine ⟨_, id_result rfl _ rfl (l := outk S 32) ?_ ho, ?_, ?_⟩
        · rw [rowAt_of_heap (World.putObj_heap_other (Ne.symm hDr)), rowAt_alloc_past _ _ _ (by rw [setRow_size]; exact l0), rowAt_setRow_free _ _ _ i6]
        · have hq := HK.out
          rw [sum, ← hq.2.1, Nat.mul_div_cancel_left _ (by omega), HS.out]
        · exact Grew.grown ((Grew.setRow_new HGW.out r0 _ (by omega)).alloc _) (grownBy_putObj' _ D (.deferred none)) (fun k e => by cases e; omega)
  case stop =>
    rintro D c pre W _ _ h _
    exact h.elim
theorem sum_w (l : List Nat) (v : Value) (w : World) (hl : l.length ≤ 1073741824) (hb : ∀ c ∈ l, c < 256) (hv : Shows w v (bys l)) :
    Calls Try.prog 12 #[v] w fun e w' => e = .returned (.agg (iv (sum l))) ∧ Grew w w' :=
  (callsIn_wide (n := 3)).1 (sum_in .wide 3 l rfl (Nat.le_refl _) v w hl hb hv)
end Go.Proofs.Ytmnnmndnpkanlaa
