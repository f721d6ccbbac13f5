/- What the statements of this chapter rest on, part 6. Conditions: none. -/
import Derived.DataShut
import Derived.Test.YtinkdkcmmjfhoaaRows
import Derived.Deep.Slices
import Derived.Test.YtinkdkcmmjfhoaaM5
/- The document's Next. -/
namespace Go.Proofs.Ytinkdkcmmjfhoaa
set_option linter.unusedVariables false
set_option linter.unusedSimpArgs false
open Go.RowKit
theorem growL_same (l : List Idb) (id : Idb) (k : Nat) (h : 0 < l.length) : (growL l id (k + 1)).set (k + 1) id = growL l id (k + 1) := by
  apply List.ext_getElem?
  intro j
  rw [List.getElem?_set, growL_get l id (k + 1) j h]
  by_cases hj : k + 1 = j
  · have n0 : ¬ j = 0 := by omega
    have n1 : j ≤ k + 1 := by omega
    have n2 : k + 1 < (growL l id (k + 1)).length := by rw [growL_len l id (k + 1) h]; omega
    rw [if_pos hj, if_pos n2, if_neg n0, if_pos n1]
  · rw [if_neg hj]
set_option maxRecDepth 100000 in
set_option maxHeartbeats 3200000 in
theorem rnext_none (ls : List Idb) (id : Idb) (level : Int) (v : Value) (w : World) (hl : ls.length ≤ 1000) (hv : ShowsI w v ls) (hcase : 32 < ls.length ∨ ls.length = 0) :
    Calls Try.prog 13 #[v, .agg (iv id.l), .int .i64 level] w fun e w' => ∃ v', e = .returned v' ∧ ShowsI w' v' (nextL ls id level) ∧ Grew w w' := by
  obtain ⟨p, c, rfl⟩ := showsI_form hv
  have h1 := id.len
  obtain ⟨N, hN⟩ : ∃ N, ls.length = N := ⟨_, rfl⟩
  have HN := Lib.hid hN
  rw [hN] at hcase ⊢
  clear hv hN hl
  rcases hcase with h | h
  · have hI : (32 : Int) < (N : Int) := by omega
    rw [nextL_many ls id level (by rw [HN.out]; exact h)]
    go_enter Try.func13, Try.ntmps13
    go_wp2
    go_ret
    exact ⟨_, rfl, .inr ⟨_, _, rfl, rfl⟩, (by repeat (first | with_reducible exact Grew.refl _ | with_reducible apply Grew.alloc | with_reducible apply Grew.grow | with_reducible apply Grew.drew | with_reducible apply Grew.drewN))⟩
  · subst h
    obtain rfl : ls = [] := List.length_eq_zero_iff.1 HN.out
    rw [nextL_none]
    go_enter Try.func13, Try.ntmps13
    go_wp2
    go_ret
    refine ⟨_, rfl, ?_, (by repeat (first | with_reducible exact Grew.refl _ | with_reducible apply Grew.alloc | with_reducible apply Grew.grow | with_reducible apply Grew.drew | with_reducible apply Grew.drewN))⟩
    have := made1J (w.alloc (.cells (iv id.l) 24)) id
    rw [World.size_alloc] at this
    exact this
set_option maxRecDepth 100000 in
set_option maxHeartbeats 6400000 in
theorem rnext_more (ls : List Idb) (id : Idb) (level : Int) (v : Value) (w : World) (h2 : ¬ 32 < ls.length) (h3 : ¬ ls.length = 0) (hv : ShowsI w v ls) :
    Calls Try.prog 13 #[v, .agg (iv id.l), .int .i64 level] w fun e w' => ∃ v', e = .returned v' ∧ ShowsI w' v' (nextL ls id level) ∧ Grew w w' := by
  obtain ⟨p, c, rfl⟩ := showsI_form hv
  have HV := Lib.hid hv
  obtain ⟨i, hi, hz, hsz, hby⟩ := info_id
  have h1 := id.len
  have hnx := nextL_grow ls id level (by omega) (by omega)
  obtain ⟨K, hK⟩ : ∃ K, lev level = K := ⟨_, rfl⟩
  have hKl : K ≤ 31 ∧ ∀ k : Nat, k < K ↔ ((k : Int) + 1 ≤ level ∧ (k : Int) + 1 ≤ 31) := by
    rw [← hK]
    unfold lev
    exact ⟨by omega, fun k => by omega⟩
  rw [hK] at hnx
  have HK := Lib.hid hKl
  have h0 : 0 < ls.length := by omega
  have H0 := Lib.hid h0
  obtain ⟨N, hN⟩ : ∃ N, ls.length = N := ⟨_, rfl⟩
  have HN := Lib.hid hN
  rw [hnx]
  rw [hN] at h2 h3 HV ⊢
  have hI : ¬ (32 : Int) < (N : Int) := by omega
  have hI2 : ¬ (N : Int) = 0 := by omega
  clear hv hK hnx hKl hN h0
  go_enter Try.func13, Try.ntmps13
  go_wp2_with (at_builtin; refine stop_of ?_)
  unfold Stop
  obtain ⟨A, hA⟩ : ∃ A, w.alloc (.cells (iv id.l) 24) = A := ⟨_, rfl⟩
  have gA : Grew w A := by rw [← hA]; exact (by repeat (first | with_reducible exact Grew.refl _ | with_reducible apply Grew.alloc | with_reducible apply Grew.grow | with_reducible apply Grew.drew | with_reducible apply Grew.drewN))
  have rA : A.rowAt w.heap.size = iv id.l := by rw [← hA]; simp [go_sem]
  have zA : w.heap.size < A.heap.size := by rw [← hA]; simp
  rw [hA]
  have GA := Lib.hid gA
  have RA := Lib.hid rA
  have ZA := Lib.hid zA
  clear hA gA
  refine wpList_appendE2 Idb.cs_len (by decide) rfl _ _ _ rfl _ i _ 32 under_ids hi hz hsz hby id0_cells cs_one A _ A.heap.size _ _ rfl rfl [] ls (Grew.refl _) (Nat.le_refl _) (Nat.le_refl _) (by exact OwnE.nil _ _ _) (by exact HV.out.grew GA.out) (by have := HN.out; simp [maxLen]; omega) (by have := HN.out; simp; omega) ?_
  intro v1 W1 ho hg
  rw [List.nil_append] at ho
  have HO := Lib.hid ho
  have HG := Lib.hid hg
  clear ho hg rA zA
  go_wp2
  go_loopw [8, 7] (fun n v wr => ∃ k : Nat, k ≤ K ∧ n = .int .i64 ((k : Int) + 1) ∧ OwnE 32 Idb.cs wr A.heap.size 24 v (growL ls id k) ∧ Grew A wr) (fun n _ _ => 40 - (intOf n).toNat)
  case atStart => exact ⟨0, by omega, rfl, by rw [growL_0]; exact HO.out, HG.out⟩
  case round =>
    obtain ⟨k, hk, rfl, ho, hg⟩ := hrel
    have hlen := growL_len ls id k H0.out
    obtain ⟨g, cap, hvf, hgb, hgs, hcap⟩ := (ho.form).resolve_left (by rintro ⟨_, h⟩; rw [h] at hlen; simp at hlen; omega)
    obtain ⟨M, hM⟩ : ∃ M, (growL ls id k).length = M := ⟨_, rfl⟩
    rw [hM] at hvf hcap hlen
    subst hvf
    have rW : wr.rowAt w.heap.size = iv id.l := by rw [Grew.rowAt hg _ ZA.out]; exact RA.out
    have zW : w.heap.size < wr.heap.size := Nat.lt_of_lt_of_le ZA.out hg.size
    have HO1 := Lib.hid ho
    have HG1 := Lib.hid hg
    have HM := Lib.hid hM
    have hMI : (M : Int) ≤ 1000 := by have := HK.out.1; have := HN.out; omega
    have hkM : k + 1 ≤ M := by omega
    have hMcap : (M : Int) ≤ (cap : Int) := by omega
    have zAw := hg.size
    have zAg := hgb
    clear ho hg HO HG hM hlen
    by_cases hkK : k < K
    · obtain ⟨l1, l2⟩ := (HK.out.2 k).1 hkK
      by_cases hkl : M = k + 1
      · subst hkl
        have HP := Lib.hid (growL_push ls id k H0.out HM.out)
        go_wp2_with (at_builtin; refine stop_of ?_)
        unfold Stop
        refine wpList_abs ?_
        intro X hX
        have gX : Grew wr X := by rw [hX]; exact (by repeat (first | with_reducible exact Grew.refl _ | with_reducible apply Grew.alloc | with_reducible apply Grew.grow | with_reducible apply Grew.drew | with_reducible apply Grew.drewN))
        have hsh : ShowsI X (.slice (some ⟨wr.heap.size, 0, none⟩) 1 1) [id] := by rw [hX]; exact made1J wr id
        have HSH := Lib.hid hsh
        have GX := Lib.hid (HG1.out.trans gX)
        have HO2 := Lib.hid (HO1.out.grew gX)
        clear hX gX hsh
        refine wpList_appendE2 Idb.cs_len (by decide) rfl _ _ _ rfl _ i _ 32 under_ids hi hz hsz hby id0_cells cs_one A _ A.heap.size _ _ rfl rfl (growL ls id k) [id] GX.out (Nat.le_refl _) GX.out.size (by exact HO2.out) (by exact HSH.out) (by rw [HM.out]; simp [maxLen]; omega) (by rw [HM.out]; simp; omega) ?_
        intro v' W2 ho' hg'
        rw [HP.out] at ho'
        have hlen := growL_len ls id (k + 1) H0.out
        have hNle : N ≤ k + 1 := by
          have := growL_len ls id k H0.out
          rw [HM.out, HN.out] at this
          omega
        obtain ⟨g', cap', hvf, hgb', hgs', hcap'⟩ := (ho'.form).resolve_left (by rintro ⟨_, h⟩; rw [h] at hlen; simp at hlen; omega)
        have hlen2 : (growL ls id (k + 1)).length = k + 2 := by rw [hlen, HN.out]; omega
        rw [hlen2] at hvf hcap'
        subst hvf
        have rW2 : W2.rowAt w.heap.size = iv id.l := by rw [Grew.rowAt hg' _ ZA.out]; exact RA.out
        have zW2 : w.heap.size < W2.heap.size := Nat.lt_of_lt_of_le ZA.out hg'.size
        have hr := ownE_row ho' (by omega)
        have hst := store_part (w := W2) (g := g') (o := (k + 1) * 32) (l := id.l) h1 hr.2.1 (by rw [hr.2.2.1]; omega)
        have hset := ownE_set ho' (k + 1) (by rw [hlen2]; omega) id
        rw [growL_same ls id k H0.out] at hset
        have gset := Grew.setRow_new hg' g' (putAt (W2.rowAt g') ((k + 1) * 32) (iv id.l).toList) hgb'
        obtain ⟨W3, hW3⟩ : ∃ W, W2.setRow g' (putAt (W2.rowAt g') ((k + 1) * 32) (iv id.l).toList) = W := ⟨_, rfl⟩
        rw [hW3] at hst hset gset
        have HST := Lib.hid hset
        have HGS := Lib.hid gset
        have hk2 : (k : Int) + 1 < ((k + 2 : Nat) : Int) := by omega
        have hk3 : ((k + 2 : Nat) : Int) ≤ (cap' : Int) := by omega
        clear hset gset hW3 hr ho' hg' hlen hlen2 HO2 GX HSH
        go_wp2
        exact ⟨⟨k + 1, by omega, by go_num, HST.out, HGS.out⟩, by simp only [intOf]; omega⟩
      · have hkl2 : ¬ ((k : Int) + 1 = (M : Int)) := by omega
        have hr := ownE_row HO1.out (by omega)
        have hst := store_part (w := wr) (g := g) (o := (k + 1) * 32) (l := id.l) h1 hr.2.1 (by rw [hr.2.2.1]; omega)
        have hset := ownE_set HO1.out (k + 1) (by rw [HM.out]; omega) id
        rw [growL_step ls id k H0.out (by rw [HM.out]; omega)] at hset
        have gset := Grew.setRow_new HG1.out g (putAt (wr.rowAt g) ((k + 1) * 32) (iv id.l).toList) zAg
        obtain ⟨W3, hW3⟩ : ∃ W, wr.setRow g (putAt (wr.rowAt g) ((k + 1) * 32) (iv id.l).toList) = W := ⟨_, rfl⟩
        rw [hW3] at hst hset gset
        have HST := Lib.hid hset
        have HGS := Lib.hid gset
        have hkM2 : (k : Int) + 1 < (M : Int) := by omega
        clear hset gset hW3 hr
        go_wp2
        exact ⟨⟨k + 1, by omega, by go_num, HST.out, HGS.out⟩, by simp only [intOf]; omega⟩
    · obtain rfl : k = K := by omega
      have hex : ¬ ((k : Int) + 1 ≤ level) ∨ ((k : Int) + 1 ≤ level ∧ ¬ (k : Int) + 1 ≤ 31) := by
        have h := HK.out.2 k
        have h' : ¬ ((k : Int) + 1 ≤ level ∧ (k : Int) + 1 ≤ 31) := fun h' => absurd (h.2 h') (by omega)
        omega
      have HS := Lib.hid (HO1.out.shows Idb.cs_len)
      clear hkK hk
      rcases hex with hex | ⟨hex, hex2⟩
      all_goals
        go_wp2
        go_ret
        exact ⟨_, rfl, HS.out, GA.out.trans HG1.out⟩
theorem next_w (ls : List Idb) (id : Idb) (level : Int) (v : Value) (w : World) (hl : ls.length ≤ 1000) (hv : ShowsI w v ls) :
    Calls Try.prog 10 #[v, .agg (iv id.l), .int .i64 level] w fun e w' => ∃ v', e = .returned v' ∧ ShowsI w' v' (nextL ls id level) ∧ Grew w w' := by
  by_cases h : 32 < ls.length ∨ ls.length = 0 ∨ (¬ 32 < ls.length ∧ ¬ ls.length = 0 ∧ level < 1)
  · exact next_few ls id level v w hl hv h
  · exact next_more ls id level v w (by omega) (by omega) (by omega) hv
theorem rnext_w (ls : List Idb) (id : Idb) (level : Int) (v : Value) (w : World) (hl : ls.length ≤ 1000) (hv : ShowsI w v ls) :
    Calls Try.prog 13 #[v, .agg (iv id.l), .int .i64 level] w fun e w' => ∃ v', e = .returned v' ∧ ShowsI w' v' (nextL ls id level) ∧ Grew w w' := by
  by_cases h : 32 < ls.length ∨ ls.length = 0
  · exact rnext_none ls id level v w hl hv h
  · exact rnext_more ls id level v w (by omega) (by omega) hv
theorem nextL_len (ls : List Idb) (id : Idb) (level : Int) (h : ls.length ≤ 1000) : (nextL ls id level).length ≤ 1000 := by
  unfold nextL
  split
  · simp
  · split
    · simp
    · rw [growL_len _ _ _ (by omega)]
      have := lev_le level
      omega
end Go.Proofs.Ytinkdkcmmjfhoaa
/- The chapter's example: what the trees of three leaves are. -/
namespace Go.Proofs.Ytinkdkcmmjfhoaa
set_option linter.unusedVariables false
set_option linter.unusedSimpArgs false
open Go.RowKit
theorem id1_lt (c : Nat) (h : c < 256) : ∀ x ∈ id1 c, x < 256 := by
  intro x hx
  simp only [id1, List.mem_cons, List.mem_replicate] at hx
  rcases hx with rfl | ⟨_, rfl⟩ <;> omega
def Idb.one (c : Nat) (h : c < 256) : Idb := ⟨id1 c, id1_len c, id1_lt c h⟩
def i1 : Idb := Idb.one 1 (by decide)
def i2 : Idb := Idb.one 2 (by decide)
def i3 : Idb := Idb.one 3 (by decide)
theorem half2 : halfN 2 = 1 := by decide +kernel
theorem half3 : halfN 3 = 2 := by decide +kernel
theorem root2 (a b : Idb) : root [a, b] = a.node b := by
  rw [root_cut [a, b] (by simp) (by simp)]
  simp only [List.length_cons, List.length_nil, Nat.zero_add, Nat.reduceAdd, half2, List.take_succ_cons, List.take_zero, List.drop_succ_cons, List.drop_zero, root_one]
theorem root3 (a b c : Idb) : root [a, b, c] = (a.node b).node c := by
  rw [root_cut [a, b, c] (by simp) (by simp)]
  simp only [List.length_cons, List.length_nil, Nat.zero_add, Nat.reduceAdd, half3, List.take_succ_cons, List.take_zero, List.drop_succ_cons, List.drop_zero, root_one, root2]
theorem path3 (a b c : Idb) : path [a, b, c] 2 = [a.node b] := by
  rw [path_right [a, b, c] 2 (by simp) (by simp) (by simp only [List.length_cons, List.length_nil, Nat.zero_add, Nat.reduceAdd, half3]; omega)]
  simp only [List.length_cons, List.length_nil, Nat.zero_add, Nat.reduceAdd, half3, List.take_succ_cons, List.take_zero, List.drop_succ_cons, List.drop_zero, root2]
  rw [path_one _ _ (by simp)]
  rfl
theorem side3 : side 3 2 = [1] := by decide +kernel
theorem chk3 (a b c : Idb) : chk (root [a, b, c]) 3 2 c [a.node b] = true := by
  have h : sidesOf 3 2 = [1] := by
    show (side 3 2).reverse = [1]
    rw [side3]; rfl
  unfold chk
  rw [h, root3]
  have h2 : chkIn 3 2 = true := by decide
  rw [h2]
  simp [ieq, top, pr, nodeP]
theorem node12 : ieq (i1.node i2).l id0 = false := by decide +kernel
end Go.Proofs.Ytinkdkcmmjfhoaa
/- A slice that is built of three ids. -/
namespace Go.Proofs.Ytinkdkcmmjfhoaa
set_option linter.unusedVariables false
set_option linter.unusedSimpArgs false
open Go.RowKit
theorem fill_one {S : Nat} {C D : Array Value} (k : Nat) (rest : List (Nat × Value)) (hC : C.size = S) (hD : k * S + S ≤ D.size) :
    ∃ D' : Array Value, D'.toList = D.toList.take (k * S) ++ C.toList ++ D.toList.drop (k * S + S) ∧ D'.size = D.size ∧ Instr.fill (fun i => some (i * S, S)) D ((k, .agg C) :: rest) = Instr.fill (fun i => some (i * S, S)) D' rest := by
  have sa : (Value.agg C).cells = C := rfl
  have ea : C.zipIdx = (C.toList.zipIdx).toArray := by cases C; simp
  have h1 := foldl_set C.toList 0 (k * S) D (by simp [hC]; omega)
  obtain ⟨D', hD'⟩ : ∃ D', (C.toList.zipIdx.foldl (fun cs (x : Value × Nat) => cs.setIfInBounds (k * S + x.2) x.1) D) = D' := ⟨_, rfl⟩
  have h2 : D'.toList = D.toList.take (k * S) ++ C.toList ++ D.toList.drop (k * S + S) := by
    rw [← hD']; simpa [hC] using h1
  refine ⟨D', h2, ?_, ?_⟩
  · have := congrArg List.length h2
    simp [hC] at this
    omega
  · rw [Instr.fill]
    simp only [sa, hC]
    rw [if_neg (by simp; omega), ea, List.foldl_toArray]
    exact congrArg (fun z => Instr.fill (fun i => some (i * S, S)) z rest) hD'
theorem fill_three {S : Nat} {C0 C1 C2 D : Array Value} (h0 : C0.size = S) (h1 : C1.size = S) (h2 : C2.size = S) (hD : D.size = 3 * S) :
    Instr.fill (fun i => some (i * S, S)) D [(0, .agg C0), (1, .agg C1), (2, .agg C2)] = some (C0.toList ++ (C1.toList ++ C2.toList)).toArray := by
  have l0 : C0.toList.length = S := by simp [h0]
  have l1 : C1.toList.length = S := by simp [h1]
  have l2 : C2.toList.length = S := by simp [h2]
  obtain ⟨D1, e1, s1, f1⟩ := fill_one (S := S) (C := C0) (D := D) 0 [(1, .agg C1), (2, .agg C2)] h0 (by omega)
  obtain ⟨D2, e2, s2, f2⟩ := fill_one (S := S) (C := C1) (D := D1) 1 [(2, .agg C2)] h1 (by omega)
  obtain ⟨D3, e3, s3, f3⟩ := fill_one (S := S) (C := C2) (D := D2) 2 [] h2 (by omega)
  rw [f1, f2, f3, Instr.fill]
  congr 1
  refine arr_ext ?_
  rw [e3]
  have t1 : D1.toList.take (1 * S) = C0.toList := by
    rw [e1, Nat.zero_mul, List.take_zero, List.nil_append, Nat.one_mul, List.take_left' l0]
  have t2 : D2.toList.take (2 * S) = C0.toList ++ C1.toList := by
    rw [e2, t1, List.take_left' (by rw [List.length_append, l0, l1]; omega)]
  have t3 : D2.toList.drop (2 * S + S) = [] := List.drop_of_length_le (by have : D2.toList.length = 3 * S := by simp [s2, s1, hD]
                                                                          omega)
  rw [t2, t3, List.append_nil, List.append_assoc]
theorem run_buildSlice3 {tt e : TypeId} {i : TypeInfo} {S : Nat} {C0 C1 C2 Z : Array Value} (ht : Try.prog.underlying tt = some (.slice e)) (hi : Try.prog.info? e = some i) (hz : i.zero = some (.agg Z)) (hs : i.size = S) (h0 : C0.size = S) (h1 : C1.size = S) (h2 : C2.size = S) (hp : 0 < S) (hS : S ≤ 1000) (w : World) :
    (Instr.buildSlice tt 3 #[(0, .agg C0), (1, .agg C1), (2, .agg C2)]).run Try.prog w = .ok (.slice (some ⟨w.heap.size, 0, none⟩) 3 3) (w.alloc (.cells (C0.toList ++ (C1.toList ++ C2.toList)).toArray e)) := by
  have hsz : (sizeOf e).run Try.prog w = .ok S w := by simp [sizeOf, typeInfo, hi, hs]
  have hzv : (zeroValue e).run Try.prog w = .ok (.agg Z) w := by simp [zeroValue, typeInfo, hi, hz]
  have h24 : ¬ (3 * S > 2 ^ 24) := by omega
  have hn0 : ¬ (3 * S = 0) := by omega
  unfold Instr.buildSlice
  simp only [Sem.run_bind, run_underlying ht w, Result.andThen_ok, hsz, h24, hn0, if_false, hzv, Sem.run_pure]
  rw [fill_three h0 h1 h2 (by simp)]
  simp [newRow]
def islBuild3 (x y z : Value) : Sem Next := do let v ← Instr.buildSlice 22 3 #[(0, x), (1, y), (2, z)]; pure (.value v)
section
variable (ρ : Operand → Value) (d : Option Tmp) (x y z : Operand) (t : TypeId) (p : String) (a : Array Edge) (g : Option (Nat × Bool))
@[go_sem ↓] theorem ex_islBuild3 : execOp ρ ⟨d, .buildSlice 22 3 #[(0, x), (1, y), (2, z)], t, p, a, g⟩ = islBuild3 (ρ x) (ρ y) (ρ z) := by simp [execOp, islBuild3]
end
@[go_sem] theorem run_islBuild3 (a b c : List Nat) (ha : a.length = 32) (hb : b.length = 32) (hc : c.length = 32) (w : World) : (islBuild3 (.agg (iv a)) (.agg (iv b)) (.agg (iv c))).run Try.prog w = .ok (.value (.slice (some ⟨w.heap.size, 0, none⟩) 3 3)) (w.alloc (.cells (iv (a ++ (b ++ c))) 24)) := by
  obtain ⟨i, hi, hz, hs, _⟩ := info_id
  unfold islBuild3
  rw [Sem.run_bind, run_buildSlice3 under_ids hi hz hs (by rw [iv_size, ha]) (by rw [iv_size, hb]) (by rw [iv_size, hc]) (by omega) (by omega)]
  rw [iv_bys, iv_bys, iv_bys, ← bys_append, ← bys_append]
  rfl
end Go.Proofs.Ytinkdkcmmjfhoaa
/- The chapter's examples hold. -/
namespace Go.Proofs.Ytinkdkcmmjfhoaa
set_option linter.unusedVariables false
set_option linter.unusedSimpArgs false
open Go.RowKit
theorem made3I (w : World) (δ : Junk) (a b c : Idb) : ShowsI ((w.grow δ).alloc (.cells (iv (a.l ++ (b.l ++ c.l))) 24)) (.slice (some ⟨w.heap.size + δ.n, 0, none⟩) 3 3) [a, b, c] := by
  have h := (OwnE.made Idb.cs_len (w.grow δ) (w.grow δ).heap.size 24 [a, b, c] (Nat.le_refl _) (by simp [maxLen])).shows Idb.cs_len
  have e1 : ([a, b, c].flatMap Idb.cs).toArray = iv (a.l ++ (b.l ++ c.l)) := by
    simp only [List.flatMap_cons, List.flatMap_nil, List.append_nil, Idb.cs, ← bys_append]
    rfl
  rw [e1, size_grow] at h
  exact h
theorem next_a : nextL [] i1 31 = [i1] := nextL_none i1 31
theorem next_b : nextL [i1] i2 2 = [i1, i2, i2] := by
  rw [nextL_grow [i1] i2 2 (by simp) (by simp)]
  have : lev 2 = 2 := by decide
  rw [this]
  rfl
theorem leads_a : leads [i1] i2 i1 = true := by unfold leads anyB; simp [ieq]
theorem leads_b : leads [] i2 i1 = false := by
  unfold leads anyB
  simp only [List.any_nil, Bool.or_false]
  decide
theorem root_a : root (leavesL [i1]) = Idb.leaf i1.l := by unfold leavesL; simp [root_one]
theorem leaf_a : ieq (Idb.leaf i1.l).l id0 = false := by decide +kernel
theorem made1X (B Z : World) (a : Idb) (v : Value) (h : ∃ δ : Junk, Z = (B.grow δ).alloc (.cells (iv a.l) 24) ∧ v = .slice (some ⟨B.heap.size + δ.n, 0, none⟩) 1 1) : ShowsI Z v [a] := by
  obtain ⟨δ, rfl, rfl⟩ := h
  exact made1I B δ a
theorem made3X (B Z : World) (a b c : Idb) (v : Value) (h : ∃ δ : Junk, Z = (B.grow δ).alloc (.cells (iv (a.l ++ (b.l ++ c.l))) 24) ∧ v = .slice (some ⟨B.heap.size + δ.n, 0, none⟩) 3 3) : ShowsI Z v [a, b, c] := by
  obtain ⟨δ, rfl, rfl⟩ := h
  exact made3I B δ a b c
set_option maxRecDepth 100000 in
set_option maxHeartbeats 12800000 in
theorem awake_w (w : World) : Calls Try.prog 9 #[] w fun e w' => e = .returned (.bool true) ∧ Grew w w' := by
  have l1 := i1.len
  have l2 := i2.len
  go_enter Try.func9, Try.ntmps9
  go_wp2
  refine code_abs ?_
  intro X hX
  have gX : Grew w X := by rw [hX]; exact (by repeat (first | with_reducible exact Grew.refl _ | with_reducible apply Grew.alloc | with_reducible apply Grew.grow | with_reducible apply Grew.drew | with_reducible apply Grew.drewN))
  have r1 : X.rowAt w.heap.size = iv i1.l := by rw [hX]; simp [go_sem]; rfl
  have r2 : X.rowAt (w.heap.size + 1) = iv i2.l := by rw [hX]; simp [go_sem]; rfl
  have z2 : w.heap.size + 1 < X.heap.size := by rw [hX]; simp
  have GX := Lib.hid gX
  have R1 := Lib.hid r1
  have R2 := Lib.hid r2
  have Z2 := Lib.hid z2
  have z1 : w.heap.size < X.heap.size := by omega
  clear hX gX
  refine wp_region_flow (by kernel_rfl) ?_
  intro δf
  apply wpFlow_quiets [0,2] (by decide +kernel) (by decide +kernel) (by kernel_rfl) (by intro _ _ _ d _ h; cases d <;> exact h) _
  · intro A hA δ'
    simp only [pickOps_cons, pickOps_nil, pick1_zero, pick1_succ]
    repeat (go_big_quiet_step ((fail)))
    exact wpQuiet_nil hA.out.symm
  refine wpFlow_two 1 3 (by decide +kernel) (by kernel_rfl) (by kernel_rfl) ?_ ?_
  refine wpFlowS_intro ?_
  simp only [pickOps_cons, pickOps_nil, pick1_zero, pick1_succ]
  intro δf
  go_wp2_with (go_at_call 10; refine (next_w [] i1 31 _ _ (by simp) (.inr ⟨_, _, rfl, rfl⟩)).mono ?_; rintro e w2 ⟨v8, rfl, hs8, hg2⟩)
  refine ⟨(by first | assumption | (simp only [grow_grow, Array.append_assoc]; assumption) | exact Grew.refl _ | (simp only [grow_grow, Array.append_assoc]; exact (by repeat (first | with_reducible exact Grew.refl _ | with_reducible apply Grew.alloc | with_reducible apply Grew.grow | with_reducible apply Grew.drew | with_reducible apply Grew.drewN))) | exact (by repeat (first | with_reducible exact Grew.refl _ | with_reducible apply Grew.alloc | with_reducible apply Grew.grow | with_reducible apply Grew.drew | with_reducible apply Grew.drewN))), ?_⟩
  have G2 := Lib.hid ((show Grew X _ from (by repeat (first | with_reducible exact Grew.refl _ | with_reducible apply Grew.alloc | with_reducible apply Grew.grow | with_reducible apply Grew.drew | with_reducible apply Grew.drewN))).trans hg2)
  rw [next_a] at hs8
  have S8 := Lib.hid hs8
  clear hg2 hs8
  refine wpFlow_one 3 (by decide +kernel) (by kernel_rfl) (by kernel_rfl) ?_
  refine wpFlowS_intro ?_
  simp only [pickOps_cons, pickOps_nil, pick1_zero, pick1_succ]
  intro δf
  go_wp2_with (fail)
  refine ⟨(by first | assumption | (simp only [grow_grow, Array.append_assoc]; assumption) | exact Grew.refl _ | (simp only [grow_grow, Array.append_assoc]; exact (by repeat (first | with_reducible exact Grew.refl _ | with_reducible apply Grew.alloc | with_reducible apply Grew.grow | with_reducible apply Grew.drew | with_reducible apply Grew.drewN))) | exact (by repeat (first | with_reducible exact Grew.refl _ | with_reducible apply Grew.alloc | with_reducible apply Grew.grow | with_reducible apply Grew.drew | with_reducible apply Grew.drewN))), ?_⟩
  refine flow_abs ?_
  intro Z hZ
  have gZ : Grew w2 Z := by rw [hZ]; exact (by repeat (first | with_reducible exact Grew.refl _ | with_reducible apply Grew.alloc | with_reducible apply Grew.grow | with_reducible apply Grew.drew | with_reducible apply Grew.drewN))
  have HZ := Lib.hid hZ
  have GZ := Lib.hid gZ
  clear hZ gZ
  have GXZ := Lib.hid (G2.out.trans GZ.out)
  have HZZ := HZ
  have CI := Lib.hid (fun v (h : ∃ δ : Junk, Z = (w2.grow δ).alloc (.cells (iv i1.l) 24) ∧ v = .slice (some ⟨w2.heap.size + δ.n, 0, none⟩) 1 1) W (g : Grew Z W) => ids_w [i1] v8 v W (by simp) (S8.out.grew (GZ.out.trans g)) ((made1X w2 Z i1 v h).grew g))
  rotate_left
  refine wpFlowS_intro ?_
  simp only [pickOps_cons, pickOps_nil, pick1_zero, pick1_succ]
  intro δf
  go_wp2_with (fail)
  refine ⟨(by first | assumption | (simp only [grow_grow, Array.append_assoc]; assumption) | exact Grew.refl _ | (simp only [grow_grow, Array.append_assoc]; exact (by repeat (first | with_reducible exact Grew.refl _ | with_reducible apply Grew.alloc | with_reducible apply Grew.grow | with_reducible apply Grew.drew | with_reducible apply Grew.drewN))) | exact (by repeat (first | with_reducible exact Grew.refl _ | with_reducible apply Grew.alloc | with_reducible apply Grew.grow | with_reducible apply Grew.drew | with_reducible apply Grew.drewN))), ?_⟩
  refine flow_abs ?_
  intro Y hY
  have gY : Grew X Y := by rw [hY]; exact (by repeat (first | with_reducible exact Grew.refl _ | with_reducible apply Grew.alloc | with_reducible apply Grew.grow | with_reducible apply Grew.drew | with_reducible apply Grew.drewN))
  have HY := Lib.hid hY
  have GY := Lib.hid gY
  clear hY gY
  refine wpFlow_one 1 (by decide +kernel) (by kernel_rfl) (by kernel_rfl) ?_
  refine wpFlowS_intro ?_
  simp only [pickOps_cons, pickOps_nil, pick1_zero, pick1_succ]
  intro δf
  go_wp2_with (go_at_call 10; refine (next_w [] i1 31 _ _ (by simp) (.inr ⟨_, _, rfl, rfl⟩)).mono ?_; rintro e Z ⟨v8, rfl, hs8, hg2⟩)
  refine ⟨(by first | assumption | (simp only [grow_grow, Array.append_assoc]; assumption) | exact Grew.refl _ | (simp only [grow_grow, Array.append_assoc]; exact (by repeat (first | with_reducible exact Grew.refl _ | with_reducible apply Grew.alloc | with_reducible apply Grew.grow | with_reducible apply Grew.drew | with_reducible apply Grew.drewN))) | exact (by repeat (first | with_reducible exact Grew.refl _ | with_reducible apply Grew.alloc | with_reducible apply Grew.grow | with_reducible apply Grew.drew | with_reducible apply Grew.drewN))), ?_⟩
  have GYZ := Lib.hid ((show Grew Y _ from (by repeat (first | with_reducible exact Grew.refl _ | with_reducible apply Grew.alloc | with_reducible apply Grew.grow | with_reducible apply Grew.drew | with_reducible apply Grew.drewN))).trans hg2)
  rw [next_a] at hs8
  have S8 := Lib.hid hs8
  clear hg2 hs8
  have GXZ := Lib.hid (GY.out.trans GYZ.out)
  have HZZ := HY
  have CI := Lib.hid (fun v (h : ∃ δ : Junk, Y = (X.grow δ).alloc (.cells (iv i1.l) 24) ∧ v = .slice (some ⟨X.heap.size + δ.n, 0, none⟩) 1 1) W (g : Grew Z W) => ids_w [i1] v8 v W (by simp) (S8.out.grew g) ((made1X X Y i1 v h).grew (GYZ.out.trans g)))
  rotate_left
  all_goals
    apply wpFlow_quiets [4] (by decide +kernel) (by decide +kernel) (by kernel_rfl) (by intro _ _ _ d _ h; cases d <;> exact h) _
    · intro A hA δ'
      simp only [pickOps_cons, pickOps_nil, pick1_zero, pick1_succ]
      repeat (go_big_quiet_step ((go_at_call 12; (with_reducible first | exact Calls.pure_of_g (CI.out _ ⟨_, HZZ.out, rfl⟩ _ (by repeat (first | with_reducible exact Grew.refl _ | with_reducible apply Grew.alloc | with_reducible apply Grew.grow | with_reducible apply Grew.drew | with_reducible apply Grew.drewN))) | exact Calls.pure_of_g3 (CI.out _ ⟨_, HZZ.out, rfl⟩ _ (by repeat (first | with_reducible exact Grew.refl _ | with_reducible apply Grew.alloc | with_reducible apply Grew.grow | with_reducible apply Grew.drew | with_reducible apply Grew.drewN)))))))
      exact wpQuiet_nil hA.out.symm
    apply wpFlow_quiets [5] (by decide +kernel) (by decide +kernel) (by kernel_rfl) (by intro _ _ _ d _ h; cases d <;> exact h) _
    · intro A hA δ'
      simp only [pickOps_cons, pickOps_nil, pick1_zero, pick1_succ]
      repeat (go_big_quiet_step ((fail)))
      exact wpQuiet_nil hA.out.symm
    refine wpFlow_end (by decide +kernel) (by kernel_rfl) ?_
    intro δf
    clear CI HZZ
    go_wp2
    refine code_abs ?_
    intro V hV
    have gV : Grew Z V := by rw [hV]; exact (by repeat (first | with_reducible exact Grew.refl _ | with_reducible apply Grew.alloc | with_reducible apply Grew.grow | with_reducible apply Grew.drew | with_reducible apply Grew.drewN))
    have GV := Lib.hid (GX.out.trans (GXZ.out.trans gV))
    have q1 : V.rowAt w.heap.size = iv i1.l := by rw [Grew.rowAt (GXZ.out.trans gV) _ (by have := Z2.out; omega)]; exact R1.out
    have q2 : V.rowAt (w.heap.size + 1) = iv i2.l := by rw [Grew.rowAt (GXZ.out.trans gV) _ Z2.out]; exact R2.out
    have y2 : w.heap.size + 1 < V.heap.size := Nat.lt_of_lt_of_le Z2.out (GXZ.out.trans gV).size
    have y1 : w.heap.size < V.heap.size := by omega
    clear hV gV GX GXZ R1 R2 Z2
    refine wp_region_flow (by kernel_rfl) ?_
    intro δf
    apply wpFlow_quiets [0,2,4,5,6] (by decide +kernel) (by decide +kernel) (by kernel_rfl) (by intro _ _ _ d _ h; cases d <;> exact h) _
    · intro A hA δ'
      simp only [pickOps_cons, pickOps_nil, pick1_zero, pick1_succ]
      repeat (go_big_quiet_step ((fail)))
      exact wpQuiet_nil hA.out.symm
    refine wpFlow_two 1 7 (by decide +kernel) (by kernel_rfl) (by kernel_rfl) ?_ ?_
    refine wpFlowS_intro ?_
    simp only [pickOps_cons, pickOps_nil, pick1_zero, pick1_succ]
    intro δf
    go_wp2_with (fail)
    refine ⟨(by first | assumption | (simp only [grow_grow, Array.append_assoc]; assumption) | exact Grew.refl _ | (simp only [grow_grow, Array.append_assoc]; exact (by repeat (first | with_reducible exact Grew.refl _ | with_reducible apply Grew.alloc | with_reducible apply Grew.grow | with_reducible apply Grew.drew | with_reducible apply Grew.drewN))) | exact (by repeat (first | with_reducible exact Grew.refl _ | with_reducible apply Grew.alloc | with_reducible apply Grew.grow | with_reducible apply Grew.drew | with_reducible apply Grew.drewN))), ?_⟩
    refine flow_abs ?_
    intro Y1 hY1
    have gY1 : Grew V Y1 := by rw [hY1]; exact (by repeat (first | with_reducible exact Grew.refl _ | with_reducible apply Grew.alloc | with_reducible apply Grew.grow | with_reducible apply Grew.drew | with_reducible apply Grew.drewN))
    have HY1 := Lib.hid hY1
    have GY1 := Lib.hid gY1
    clear hY1 gY1
    refine wpFlow_two 3 7 (by decide +kernel) (by kernel_rfl) (by kernel_rfl) ?_ ?_
    refine wpFlowS_intro ?_
    simp only [pickOps_cons, pickOps_nil, pick1_zero, pick1_succ]
    intro δf
    go_wp2_with (go_at_call 10; refine (next_w [i1] i2 2 _ _ (by simp) ((made1X V Y1 i1 _ ⟨_, HY1.out, rfl⟩).grew (by repeat (first | with_reducible exact Grew.refl _ | with_reducible apply Grew.alloc | with_reducible apply Grew.grow | with_reducible apply Grew.drew | with_reducible apply Grew.drewN)))).mono ?_; rintro e w4 ⟨v15, rfl, hs8, hg2⟩)
    refine ⟨(by first | assumption | (simp only [grow_grow, Array.append_assoc]; assumption) | exact Grew.refl _ | (simp only [grow_grow, Array.append_assoc]; exact (by repeat (first | with_reducible exact Grew.refl _ | with_reducible apply Grew.alloc | with_reducible apply Grew.grow | with_reducible apply Grew.drew | with_reducible apply Grew.drewN))) | exact (by repeat (first | with_reducible exact Grew.refl _ | with_reducible apply Grew.alloc | with_reducible apply Grew.grow | with_reducible apply Grew.drew | with_reducible apply Grew.drewN))), ?_⟩
    have G4 := Lib.hid ((show Grew Y1 _ from (by repeat (first | with_reducible exact Grew.refl _ | with_reducible apply Grew.alloc | with_reducible apply Grew.grow | with_reducible apply Grew.drew | with_reducible apply Grew.drewN))).trans hg2)
    rw [next_b] at hs8
    have S15 := Lib.hid hs8
    clear hg2 hs8
    refine wpFlow_one 7 (by decide +kernel) (by kernel_rfl) (by kernel_rfl) ?_
    refine wpFlowS_intro ?_
    simp only [pickOps_cons, pickOps_nil, pick1_zero, pick1_succ]
    intro δf
    go_wp2_with (fail)
    refine ⟨(by first | assumption | (simp only [grow_grow, Array.append_assoc]; assumption) | exact Grew.refl _ | (simp only [grow_grow, Array.append_assoc]; exact (by repeat (first | with_reducible exact Grew.refl _ | with_reducible apply Grew.alloc | with_reducible apply Grew.grow | with_reducible apply Grew.drew | with_reducible apply Grew.drewN))) | exact (by repeat (first | with_reducible exact Grew.refl _ | with_reducible apply Grew.alloc | with_reducible apply Grew.grow | with_reducible apply Grew.drew | with_reducible apply Grew.drewN))), ?_⟩
    refine flow_abs ?_
    intro Z4 hZ4
    have gZ4 : Grew w4 Z4 := by rw [hZ4]; exact (by repeat (first | with_reducible exact Grew.refl _ | with_reducible apply Grew.alloc | with_reducible apply Grew.grow | with_reducible apply Grew.drew | with_reducible apply Grew.drewN))
    have HZ4 := Lib.hid hZ4
    have GZ4 := Lib.hid gZ4
    clear hZ4 gZ4
    have GVZ := Lib.hid (GY1.out.trans (G4.out.trans GZ4.out))
    have HZZ := HZ4
    have CI := Lib.hid (fun v (h : ∃ δ : Junk, Z4 = (w4.grow δ).alloc (.cells (iv (i1.l ++ (i2.l ++ i2.l))) 24) ∧ v = .slice (some ⟨w4.heap.size + δ.n, 0, none⟩) 3 3) W (g : Grew Z4 W) => ids_w [i1, i2, i2] v15 v W (by simp) (S15.out.grew (GZ4.out.trans g)) ((made3X w4 Z4 i1 i2 i2 v h).grew (g)))
    rotate_left
    refine wpFlowS_intro ?_
    simp only [pickOps_cons, pickOps_nil, pick1_zero, pick1_succ]
    intro δf
    go_wp2_with (fail)
    refine ⟨(by first | assumption | (simp only [grow_grow, Array.append_assoc]; assumption) | exact Grew.refl _ | (simp only [grow_grow, Array.append_assoc]; exact (by repeat (first | with_reducible exact Grew.refl _ | with_reducible apply Grew.alloc | with_reducible apply Grew.grow | with_reducible apply Grew.drew | with_reducible apply Grew.drewN))) | exact (by repeat (first | with_reducible exact Grew.refl _ | with_reducible apply Grew.alloc | with_reducible apply Grew.grow | with_reducible apply Grew.drew | with_reducible apply Grew.drewN))), ?_⟩
    refine flow_abs ?_
    intro Y2 hY2
    have gY2 : Grew Y1 Y2 := by rw [hY2]; exact (by repeat (first | with_reducible exact Grew.refl _ | with_reducible apply Grew.alloc | with_reducible apply Grew.grow | with_reducible apply Grew.drew | with_reducible apply Grew.drewN))
    have HY2 := Lib.hid hY2
    have GY2 := Lib.hid gY2
    clear hY2 gY2
    refine wpFlow_one 3 (by decide +kernel) (by kernel_rfl) (by kernel_rfl) ?_
    refine wpFlowS_intro ?_
    simp only [pickOps_cons, pickOps_nil, pick1_zero, pick1_succ]
    intro δf
    go_wp2_with (go_at_call 10; refine (next_w [i1] i2 2 _ _ (by simp) (((made1X V Y1 i1 _ ⟨_, HY1.out, rfl⟩).grew GY2.out).grew (by repeat (first | with_reducible exact Grew.refl _ | with_reducible apply Grew.alloc | with_reducible apply Grew.grow | with_reducible apply Grew.drew | with_reducible apply Grew.drewN)))).mono ?_; rintro e Z4 ⟨v15, rfl, hs8, hg2⟩)
    refine ⟨(by first | assumption | (simp only [grow_grow, Array.append_assoc]; assumption) | exact Grew.refl _ | (simp only [grow_grow, Array.append_assoc]; exact (by repeat (first | with_reducible exact Grew.refl _ | with_reducible apply Grew.alloc | with_reducible apply Grew.grow | with_reducible apply Grew.drew | with_reducible apply Grew.drewN))) | exact (by repeat (first | with_reducible exact Grew.refl _ | with_reducible apply Grew.alloc | with_reducible apply Grew.grow | with_reducible apply Grew.drew | with_reducible apply Grew.drewN))), ?_⟩
    have G4 := Lib.hid ((show Grew Y2 _ from (by repeat (first | with_reducible exact Grew.refl _ | with_reducible apply Grew.alloc | with_reducible apply Grew.grow | with_reducible apply Grew.drew | with_reducible apply Grew.drewN))).trans hg2)
    rw [next_b] at hs8
    have S15 := Lib.hid hs8
    clear hg2 hs8
    have GVZ := Lib.hid (GY1.out.trans (GY2.out.trans G4.out))
    have HZZ := HY2
    have CI := Lib.hid (fun v (h : ∃ δ : Junk, Y2 = (Y1.grow δ).alloc (.cells (iv (i1.l ++ (i2.l ++ i2.l))) 24) ∧ v = .slice (some ⟨Y1.heap.size + δ.n, 0, none⟩) 3 3) W (g : Grew Z4 W) => ids_w [i1, i2, i2] v15 v W (by simp) (S15.out.grew g) ((made3X Y1 Y2 i1 i2 i2 v h).grew (G4.out.trans g)))
    rotate_left
    refine wpFlowS_intro ?_
    simp only [pickOps_cons, pickOps_nil, pick1_zero, pick1_succ]
    intro δf
    go_wp2_with (fail)
    refine ⟨(by first | assumption | (simp only [grow_grow, Array.append_assoc]; assumption) | exact Grew.refl _ | (simp only [grow_grow, Array.append_assoc]; exact (by repeat (first | with_reducible exact Grew.refl _ | with_reducible apply Grew.alloc | with_reducible apply Grew.grow | with_reducible apply Grew.drew | with_reducible apply Grew.drewN))) | exact (by repeat (first | with_reducible exact Grew.refl _ | with_reducible apply Grew.alloc | with_reducible apply Grew.grow | with_reducible apply Grew.drew | with_reducible apply Grew.drewN))), ?_⟩
    refine flow_abs ?_
    intro Y1 hY1
    have gY1 : Grew V Y1 := by rw [hY1]; exact (by repeat (first | with_reducible exact Grew.refl _ | with_reducible apply Grew.alloc | with_reducible apply Grew.grow | with_reducible apply Grew.drew | with_reducible apply Grew.drewN))
    have HY1 := Lib.hid hY1
    have GY1 := Lib.hid gY1
    clear hY1 gY1
    refine wpFlow_one 1 (by decide +kernel) (by kernel_rfl) (by kernel_rfl) ?_
    refine wpFlowS_intro ?_
    simp only [pickOps_cons, pickOps_nil, pick1_zero, pick1_succ]
    intro δf
    go_wp2_with (fail)
    refine ⟨(by first | assumption | (simp only [grow_grow, Array.append_assoc]; assumption) | exact Grew.refl _ | (simp only [grow_grow, Array.append_assoc]; exact (by repeat (first | with_reducible exact Grew.refl _ | with_reducible apply Grew.alloc | with_reducible apply Grew.grow | with_reducible apply Grew.drew | with_reducible apply Grew.drewN))) | exact (by repeat (first | with_reducible exact Grew.refl _ | with_reducible apply Grew.alloc | with_reducible apply Grew.grow | with_reducible apply Grew.drew | with_reducible apply Grew.drewN))), ?_⟩
    refine flow_abs ?_
    intro Y2 hY2
    have gY2 : Grew Y1 Y2 := by rw [hY2]; exact (by repeat (first | with_reducible exact Grew.refl _ | with_reducible apply Grew.alloc | with_reducible apply Grew.grow | with_reducible apply Grew.drew | with_reducible apply Grew.drewN))
    have HY2 := Lib.hid hY2
    have GY2 := Lib.hid gY2
    clear hY2 gY2
    refine wpFlow_one 3 (by decide +kernel) (by kernel_rfl) (by kernel_rfl) ?_
    refine wpFlowS_intro ?_
    simp only [pickOps_cons, pickOps_nil, pick1_zero, pick1_succ]
    intro δf
    go_wp2_with (go_at_call 10; refine (next_w [i1] i2 2 _ _ (by simp) ((made1X Y1 Y2 i1 _ ⟨_, HY2.out, rfl⟩).grew (by repeat (first | with_reducible exact Grew.refl _ | with_reducible apply Grew.alloc | with_reducible apply Grew.grow | with_reducible apply Grew.drew | with_reducible apply Grew.drewN)))).mono ?_; rintro e Z4 ⟨v15, rfl, hs8, hg2⟩)
    refine ⟨(by first | assumption | (simp only [grow_grow, Array.append_assoc]; assumption) | exact Grew.refl _ | (simp only [grow_grow, Array.append_assoc]; exact (by repeat (first | with_reducible exact Grew.refl _ | with_reducible apply Grew.alloc | with_reducible apply Grew.grow | with_reducible apply Grew.drew | with_reducible apply Grew.drewN))) | exact (by repeat (first | with_reducible exact Grew.refl _ | with_reducible apply Grew.alloc | with_reducible apply Grew.grow | with_reducible apply Grew.drew | with_reducible apply Grew.drewN))), ?_⟩
    have G4 := Lib.hid ((show Grew Y2 _ from (by repeat (first | with_reducible exact Grew.refl _ | with_reducible apply Grew.alloc | with_reducible apply Grew.grow | with_reducible apply Grew.drew | with_reducible apply Grew.drewN))).trans hg2)
    rw [next_b] at hs8
    have S15 := Lib.hid hs8
    clear hg2 hs8
    have GVZ := Lib.hid (GY1.out.trans (GY2.out.trans G4.out))
    have HZZ := HY1
    have CI := Lib.hid (fun v (h : ∃ δ : Junk, Y1 = (V.grow δ).alloc (.cells (iv (i1.l ++ (i2.l ++ i2.l))) 24) ∧ v = .slice (some ⟨V.heap.size + δ.n, 0, none⟩) 3 3) W (g : Grew Z4 W) => ids_w [i1, i2, i2] v15 v W (by simp) (S15.out.grew g) ((made3X V Y1 i1 i2 i2 v h).grew (GY2.out.trans (G4.out.trans g))))
    rotate_left
    all_goals
      apply wpFlow_quiets [8] (by decide +kernel) (by decide +kernel) (by kernel_rfl) (by intro _ _ _ d _ h; cases d <;> exact h) _
      · intro A hA δ'
        simp only [pickOps_cons, pickOps_nil, pick1_zero, pick1_succ]
        repeat (go_big_quiet_step ((go_at_call 12; (with_reducible first | exact Calls.pure_of_g (CI.out _ ⟨_, HZZ.out, rfl⟩ _ (by repeat (first | with_reducible exact Grew.refl _ | with_reducible apply Grew.alloc | with_reducible apply Grew.grow | with_reducible apply Grew.drew | with_reducible apply Grew.drewN))) | exact Calls.pure_of_g3 (CI.out _ ⟨_, HZZ.out, rfl⟩ _ (by repeat (first | with_reducible exact Grew.refl _ | with_reducible apply Grew.alloc | with_reducible apply Grew.grow | with_reducible apply Grew.drew | with_reducible apply Grew.drewN)))))))
        exact wpQuiet_nil hA.out.symm
      apply wpFlow_quiets [9] (by decide +kernel) (by decide +kernel) (by kernel_rfl) (by intro _ _ _ d _ h; cases d <;> exact h) _
      · intro A hA δ'
        simp only [pickOps_cons, pickOps_nil, pick1_zero, pick1_succ]
        repeat (go_big_quiet_step ((fail)))
        exact wpQuiet_nil hA.out.symm
      refine wpFlow_end (by decide +kernel) (by kernel_rfl) ?_
      intro δf
      clear CI HZZ
      go_wp2
      refine code_abs ?_
      intro U hU
      have gU : Grew V U := by rw [hU]; exact GVZ.out.trans (by repeat (first | with_reducible exact Grew.refl _ | with_reducible apply Grew.alloc | with_reducible apply Grew.grow | with_reducible apply Grew.drew | with_reducible apply Grew.drewN))
      have u1 : U.rowAt w.heap.size = iv i1.l := by rw [Grew.rowAt gU _ y1]; exact q1
      have u2 : U.rowAt (w.heap.size + 1) = iv i2.l := by rw [Grew.rowAt gU _ y2]; exact q2
      have t2 : w.heap.size + 1 < U.heap.size := Nat.lt_of_lt_of_le y2 gU.size
      have t1 : w.heap.size < U.heap.size := by omega
      have GU := Lib.hid (GV.out.trans gU)
      have HB : Hid (∀ W, Grew U W → Shows W (.slice (some ⟨w.heap.size, 0, none⟩) 32 32) (bys i1.l)) := Lib.hid (fun W g => (shows_box t1 u1).grew g)
      have CL1 : Hid (∀ v W, ShowsI W v [i1] → Calls Try.prog 11 #[v, .agg (iv i2.l), .agg (iv i1.l)] W fun e w' => e = .returned (.bool true) ∧ Grew W w') := Lib.hid (fun v W h => by have := leads_w [i1] i2 i1 v W (by simp) h; rwa [leads_a] at this)
      have CL2 : Hid (∀ W, Calls Try.prog 11 #[.slice none 0 0, .agg (iv i2.l), .agg (iv i1.l)] W fun e w' => e = .returned (.bool false) ∧ Grew W w') := Lib.hid (fun W => by have := leads_w [] i2 i1 (.slice none 0 0) W (by simp) (.inr ⟨_, _, rfl, rfl⟩); rwa [leads_b] at this)
      have CR : Hid (∀ v W, ShowsI W v [i1] → Calls Try.prog 18 #[v] W fun e w' => e = .returned (.agg (iv (Idb.leaf i1.l).l)) ∧ Grew W w') := Lib.hid (fun v W h => by have := lroot_w [i1] v W (by simp) h; rwa [root_a] at this)
      have CF : Hid (∀ v W, Shows W v (bys i1.l) → Calls Try.prog 21 #[v] W fun e w' => e = .returned (.agg (iv (Idb.leaf i1.l).l)) ∧ Grew W w') := Lib.hid (fun v W h => leaf_w i1.l v W (by rw [i1.len]; decide) i1.lt h)
      have e0 := leaf_a
      have ll := (Idb.leaf i1.l).len
      obtain ⟨n, hn⟩ : ∃ n, Idb.leaf i1.l = n := ⟨_, rfl⟩
      rw [hn] at CR CF e0 ll
      have e1 : ieq n.l n.l = true := decide_eq_true rfl
      clear hU gU hn
      refine wp_region_flow (by kernel_rfl) ?_
      intro δf
      apply wpFlow_quiets [0,1,2,3,4,5,7,8] (by decide +kernel) (by decide +kernel) (by kernel_rfl) (by intro _ _ _ d _ h; cases d <;> exact h) _
      · intro A hA δ'
        simp only [pickOps_cons, pickOps_nil, pick1_zero, pick1_succ]
        repeat (go_big_quiet_step ((fail)))
        exact wpQuiet_nil hA.out.symm
      refine wpFlow_one 6 (by decide +kernel) (by kernel_rfl) (by kernel_rfl) ?_
      refine wpFlowS_intro ?_
      simp only [pickOps_cons, pickOps_nil, pick1_zero, pick1_succ]
      intro δf
      go_wp2_with (fail)
      refine ⟨(by first | assumption | (simp only [grow_grow, Array.append_assoc]; assumption) | exact Grew.refl _ | (simp only [grow_grow, Array.append_assoc]; exact (by repeat (first | with_reducible exact Grew.refl _ | with_reducible apply Grew.alloc | with_reducible apply Grew.grow | with_reducible apply Grew.drew | with_reducible apply Grew.drewN))) | exact (by repeat (first | with_reducible exact Grew.refl _ | with_reducible apply Grew.alloc | with_reducible apply Grew.grow | with_reducible apply Grew.drew | with_reducible apply Grew.drewN))), ?_⟩
      refine flow_abs ?_
      intro U2 hU2
      have gU2 : Grew U U2 := by rw [hU2]; exact (by repeat (first | with_reducible exact Grew.refl _ | with_reducible apply Grew.alloc | with_reducible apply Grew.grow | with_reducible apply Grew.drew | with_reducible apply Grew.drewN))
      have HU2 := Lib.hid hU2
      have GU2 := Lib.hid gU2
      clear hU2 gU2
      have u1' : U2.rowAt w.heap.size = iv i1.l := by rw [Grew.rowAt GU2.out _ t1]; exact u1
      have u2' : U2.rowAt (w.heap.size + 1) = iv i2.l := by rw [Grew.rowAt GU2.out _ t2]; exact u2
      have t1' : w.heap.size < U2.heap.size := Nat.lt_of_lt_of_le t1 GU2.out.size
      have t2' : w.heap.size + 1 < U2.heap.size := Nat.lt_of_lt_of_le t2 GU2.out.size
      clear u1 u2 t1 t2
      apply wpFlow_quiets [9] (by decide +kernel) (by decide +kernel) (by kernel_rfl) (by intro _ _ _ d _ h; cases d <;> exact h) _
      · intro A hA δ'
        simp only [pickOps_cons, pickOps_nil, pick1_zero, pick1_succ]
        repeat (go_big_quiet_step ((go_at_call 11; (with_reducible first | exact Calls.pure_of_g (CL1.out _ _ ((made1X U U2 i1 _ ⟨_, HU2.out, rfl⟩).grew (by repeat (first | with_reducible exact Grew.refl _ | with_reducible apply Grew.alloc | with_reducible apply Grew.grow | with_reducible apply Grew.drew | with_reducible apply Grew.drewN))))))))
        exact wpQuiet_nil hA.out.symm
      apply wpFlow_quiets [10,11,12,13] (by decide +kernel) (by decide +kernel) (by kernel_rfl) (by intro _ _ _ d _ h; cases d <;> exact h) _
      · intro A hA δ'
        simp only [pickOps_cons, pickOps_nil, pick1_zero, pick1_succ]
        repeat (go_big_quiet_step ((fail)))
        exact wpQuiet_nil hA.out.symm
      apply wpFlow_quiets [14] (by decide +kernel) (by decide +kernel) (by kernel_rfl) (by intro _ _ _ d _ h; cases d <;> exact h) _
      · intro A hA δ'
        simp only [pickOps_cons, pickOps_nil, pick1_zero, pick1_succ]
        repeat (go_big_quiet_step ((go_at_call 11; (with_reducible first | exact Calls.pure_of_g3 (CL2.out _) | exact Calls.pure_of_g (CL2.out _)))))
        exact wpQuiet_nil hA.out.symm
      apply wpFlow_quiets [15,16,17,18,21] (by decide +kernel) (by decide +kernel) (by kernel_rfl) (by intro _ _ _ d _ h; cases d <;> exact h) _
      · intro A hA δ'
        simp only [pickOps_cons, pickOps_nil, pick1_zero, pick1_succ]
        repeat (go_big_quiet_step ((fail)))
        exact wpQuiet_nil hA.out.symm
      refine wpFlow_one 19 (by decide +kernel) (by kernel_rfl) (by kernel_rfl) ?_
      refine wpFlowS_intro ?_
      simp only [pickOps_cons, pickOps_nil, pick1_zero, pick1_succ]
      intro δf
      go_wp2_with (fail)
      refine ⟨(by first | assumption | (simp only [grow_grow, Array.append_assoc]; assumption) | exact Grew.refl _ | (simp only [grow_grow, Array.append_assoc]; exact (by repeat (first | with_reducible exact Grew.refl _ | with_reducible apply Grew.alloc | with_reducible apply Grew.grow | with_reducible apply Grew.drew | with_reducible apply Grew.drewN))) | exact (by repeat (first | with_reducible exact Grew.refl _ | with_reducible apply Grew.alloc | with_reducible apply Grew.grow | with_reducible apply Grew.drew | with_reducible apply Grew.drewN))), ?_⟩
      refine flow_abs ?_
      intro U3 hU3
      have gU3 : Grew U2 U3 := by rw [hU3]; exact (by repeat (first | with_reducible exact Grew.refl _ | with_reducible apply Grew.alloc | with_reducible apply Grew.grow | with_reducible apply Grew.drew | with_reducible apply Grew.drewN))
      have HU3 := Lib.hid hU3
      have GU3 := Lib.hid gU3
      clear hU3 gU3
      have u1'' : U3.rowAt w.heap.size = iv i1.l := by rw [Grew.rowAt GU3.out _ t1']; exact u1'
      have u2'' : U3.rowAt (w.heap.size + 1) = iv i2.l := by rw [Grew.rowAt GU3.out _ t2']; exact u2'
      have t1'' : w.heap.size < U3.heap.size := Nat.lt_of_lt_of_le t1' GU3.out.size
      have t2'' : w.heap.size + 1 < U3.heap.size := Nat.lt_of_lt_of_le t2' GU3.out.size
      clear u1' u2' t1' t2'
      apply wpFlow_quiets [20] (by decide +kernel) (by decide +kernel) (by kernel_rfl) (by intro _ _ _ d _ h; cases d <;> exact h) _
      · intro A hA δ'
        simp only [pickOps_cons, pickOps_nil, pick1_zero, pick1_succ]
        repeat (go_big_quiet_step ((go_at_call 18; (with_reducible first | exact Calls.pure_of_g (CR.out _ _ ((made1X U2 U3 i1 _ ⟨_, HU3.out, rfl⟩).grew (by repeat (first | with_reducible exact Grew.refl _ | with_reducible apply Grew.alloc | with_reducible apply Grew.grow | with_reducible apply Grew.drew | with_reducible apply Grew.drewN))))))))
        exact wpQuiet_nil hA.out.symm
      apply wpFlow_quiets [22] (by decide +kernel) (by decide +kernel) (by kernel_rfl) (by intro _ _ _ d _ h; cases d <;> exact h) _
      · intro A hA δ'
        simp only [pickOps_cons, pickOps_nil, pick1_zero, pick1_succ]
        repeat (go_big_quiet_step ((go_at_call 21; (with_reducible first | exact Calls.pure_of_g3 (CF.out _ _ ((HB.out _ (GU2.out.trans GU3.out)).grew (by repeat (first | with_reducible exact Grew.refl _ | with_reducible apply Grew.alloc | with_reducible apply Grew.grow | with_reducible apply Grew.drew | with_reducible apply Grew.drewN)))) | exact Calls.pure_of_g (CF.out _ _ ((HB.out _ (GU2.out.trans GU3.out)).grew (by repeat (first | with_reducible exact Grew.refl _ | with_reducible apply Grew.alloc | with_reducible apply Grew.grow | with_reducible apply Grew.drew | with_reducible apply Grew.drewN))))))))
        exact wpQuiet_nil hA.out.symm
      apply wpFlow_quiets [23,24,25,26] (by decide +kernel) (by decide +kernel) (by kernel_rfl) (by intro _ _ _ d _ h; cases d <;> exact h) _
      · intro A hA δ'
        simp only [pickOps_cons, pickOps_nil, pick1_zero, pick1_succ]
        repeat (go_big_quiet_step ((fail)))
        exact wpQuiet_nil hA.out.symm
      apply wpFlow_quiets [27] (by decide +kernel) (by decide +kernel) (by kernel_rfl) (by intro _ _ _ d _ h; cases d <;> exact h) _
      · intro A hA δ'
        simp only [pickOps_cons, pickOps_nil, pick1_zero, pick1_succ]
        repeat (go_big_quiet_step ((go_at_call 21; (with_reducible first | exact Calls.pure_of_g3 (CF.out _ _ ((HB.out _ (GU2.out.trans GU3.out)).grew (by repeat (first | with_reducible exact Grew.refl _ | with_reducible apply Grew.alloc | with_reducible apply Grew.grow | with_reducible apply Grew.drew | with_reducible apply Grew.drewN)))) | exact Calls.pure_of_g (CF.out _ _ ((HB.out _ (GU2.out.trans GU3.out)).grew (by repeat (first | with_reducible exact Grew.refl _ | with_reducible apply Grew.alloc | with_reducible apply Grew.grow | with_reducible apply Grew.drew | with_reducible apply Grew.drewN))))))))
        exact wpQuiet_nil hA.out.symm
      apply wpFlow_quiets [28,29,30,31] (by decide +kernel) (by decide +kernel) (by kernel_rfl) (by intro _ _ _ d _ h; cases d <;> exact h) _
      · intro A hA δ'
        simp only [pickOps_cons, pickOps_nil, pick1_zero, pick1_succ]
        repeat (go_big_quiet_step ((fail)))
        exact wpQuiet_nil hA.out.symm
      refine wpFlow_end (by decide +kernel) (by kernel_rfl) ?_
      intro δf
      go_wp2
      go_ret
      exact ⟨rfl, GU.out.trans (GU2.out.trans (GU3.out.trans (by repeat (first | with_reducible exact Grew.refl _ | with_reducible apply Grew.alloc | with_reducible apply Grew.grow | with_reducible apply Grew.drew | with_reducible apply Grew.drewN))))⟩
end Go.Proofs.Ytinkdkcmmjfhoaa
/- How the reader reads an id. -/
namespace Go.Proofs.Ytinkdkcmmjfhoaa
set_option linter.unusedVariables false
set_option linter.unusedSimpArgs false
open Go.ChangeShapes Go.WideShapes Go.ChangeAt Go.RowKit

theorem cellsId : Try.prog.cellsOf 24 = 32 := by kernel_rfl
theorem trod_bytes_mk {H : Type} {enc : TypeId × Value → H} (W : World) (base : Nat) (sp : Nat → Bool) (l : List Nat) (hl : l.length = 32) (hc : ∀ c ∈ l, c < 256) :
    DataW.Trod enc Try.prog W base sp true 24 (.agg (iv l)) (.agg (l.map fun (c : Nat) => .lit (.int .u8 (c : Int)))) [] := by
  refine ⟨2, ?_⟩
  unfold DataW.trod
  rw [under_id]
  have e1 : (Value.agg (iv l)).cells.toList = l.map (fun (c : Nat) => Value.int .u8 (c : Int)) := rfl
  rw [e1]
  simp only [List.length_map, hl, cellsId, cells8, Nat.mul_one, if_true]
  rw [mapM_some_of_get (List.range 32) (l.map fun (c : Nat) => ((.lit (.int .u8 (c : Int)), []) : DataW H × List MemPlace)) (by simp [hl]) ?_]
  · simp
  · intro i x hx
    have hi : i < 32 := by
      have := (List.getElem?_eq_some_iff.1 hx).1
      simpa using this
    have : x = i := by simpa [List.getElem?_range hi] using hx.symm
    subst this
    have e2 : ((l.map (fun (c : Nat) => Value.int .u8 (c : Int))).drop x).take 1 = [Value.int .u8 ((l[x]'(by omega) : Nat) : Int)] := by
      rw [List.drop_eq_getElem_cons (by simpa using (by omega : x < l.length))]
      simp
    rw [e2]
    have hw : (Lit.int .u8 ((l[x]'(by omega) : Nat) : Int)).wf = true := wf_u8 _ (hc _ (List.getElem_mem _))
    unfold DataW.trod
    rw [Try.underlying5]
    simp [hw, hl, hi]

set_option maxRecDepth 100000 in
set_option maxHeartbeats 400000 in
theorem open_id {H : Type} {enc : TypeId × Value → H} {W : World} {base : Nat} {sp : Nat → Bool} {v : Value} {d : DataW H} {p : List MemPlace}
    (hv : Value.okWide Try.prog W .any base 24 v) (h : DataW.Trod enc Try.prog W 0 sp true 24 v d p) :
    ∃ x : Idb, v = .agg (iv x.l) ∧ p = [] ∧ ∀ (W' : World) (sp' : Nat → Bool), DataW.Trod enc Try.prog W' 0 sp' true 24 (.agg (iv x.l)) d [] := by
  obtain ⟨cs, rfl, hsz, _⟩ : ∃ cs, v = .agg cs ∧ cs.size = Try.prog.cellsOf 24 ∧ Row.okWide Try.prog W .any base 24 cs := by
    simpa [Value.okWide, under_id] using hv
  rw [cellsId] at hsz
  obtain ⟨fuel, hf⟩ := h
  obtain ⟨xs, m, rfl, hx, hl, hn, hel⟩ := DataW.trod_array under_id hf
  have hcl : (Value.agg cs).cells.toList = cs.toList := rfl
  rw [hcl] at hel hl
  rw [cells8] at hel
  have hlen : cs.toList.length = 32 := by simpa using hsz
  obtain ⟨l, e1, e2, e3⟩ := bytes_of_trod (cs := cs.toList) (xs := xs) (by rw [hn, hlen]) (fun i hi => by
    have := hel i (by omega)
    simpa using this)
  have hll : l.length = 32 := by
    have := congrArg List.length e1
    rw [hlen] at this
    simpa using this.symm
  simp only [Prod.mk.injEq] at hx
  obtain ⟨hd, hp⟩ := hx
  refine ⟨⟨l, hll, e2⟩, ?_, ?_, fun W' sp' => ?_⟩
  · have : cs = iv l := by
      cases cs; simp only at e1; subst e1; rfl
    rw [this]
  · rw [hp, e3]
    simp
    try (induction l <;> simp_all)
  · have : d = .agg (l.map fun (c : Nat) => .lit (.int .u8 (c : Int))) := by
      rw [hd, e3, List.map_map]; rfl
    rw [this]
    exact trod_bytes_mk W' 0 sp' l hll e2
end Go.Proofs.Ytinkdkcmmjfhoaa
/- An argument of ids, opened. -/
namespace Go.Proofs.Ytinkdkcmmjfhoaa
set_option linter.unusedVariables false
set_option linter.unusedSimpArgs false
open Go.ChangeShapes Go.WideShapes Go.ChangeAt Go.RowKit
/-- The cells of an id, read. -/
theorem cells_id {H : Type} {enc : TypeId × Value → H} {W : World} {base : Nat} {sp : Nat → Bool} {fuel : Nat} {cs : List Value} {d : DataW H × List MemPlace}
    (hn : cs.length = 32) (hf : DataW.trod enc Try.prog W base sp true fuel 24 cs = some d) : ∃ x : Idb, cs = x.cs := by
  obtain ⟨xs, m, rfl, hx, hl, hn2, hel⟩ := DataW.trod_array under_id hf
  rw [cells8] at hel
  obtain ⟨l, e1, e2, e3⟩ := bytes_of_trod (cs := cs) (xs := xs) (by rw [hn2, hn]) (fun i hi => by
    have := hel i (by omega)
    simpa using this)
  exact ⟨⟨l, by rw [e1] at hn; simpa using hn, e2⟩, e1⟩
theorem open_ids {H : Type} {enc : TypeId × Value → H} {W : World} {v : Value} {d : DataW H} {p : List MemPlace} (h : DataW.Trod enc Try.prog W 0 (fun _ => true) true 22 v d p) (hv : v.cells = #[v]) :
    ∃ (q : Option Addr) (c : Nat) (l : List Idb), v = .slice q l.length c ∧ l.length ≤ maxLen ∧ ShowsI W (.slice q l.length c) l := by
  obtain ⟨fuel, hf⟩ := h
  rw [hv] at hf
  rcases Deep.open_slice under_ids hf with ⟨hcs, _⟩ | ⟨a, len, cap, m, n, D, Pl, hcs, _, hl, hm, hmm, _, hel⟩
  · obtain rfl : v = .slice none 0 0 := by simpa using hcs
    exact ⟨none, 0, [], rfl, by simp, .inr ⟨_, _, rfl, rfl⟩⟩
  · obtain rfl : v = .slice (some a) len cap := by simpa using hcs
    simp only [if_true] at hmm
    subst hmm
    rw [cellsId] at hel
    have each : ∀ i, i < m → ∃ x : Idb, ∀ j, j < 32 → W.cell? ((a.add (i * 32)).add j) = x.cs[j]? := fun i hi => by
      obtain ⟨cs', h1, h2⟩ := hel i hi
      obtain ⟨_, hlen, hget⟩ := World.cells?_some h1
      obtain ⟨x, rfl⟩ := cells_id hlen h2
      exact ⟨x, hget⟩
    have pick : ∀ n, n ≤ m → ∃ l : List Idb, l.length = n ∧ ∀ i x, l[i]? = some x → ∀ j, j < 32 → W.cell? ((a.add (i * 32)).add j) = x.cs[j]? := by
      intro n
      induction n with
      | zero => exact fun _ => ⟨[], rfl, by simp⟩
      | succ n ih =>
        intro hn
        obtain ⟨l, h1, h2⟩ := ih (by omega)
        obtain ⟨x, h3⟩ := each n (by omega)
        refine ⟨l ++ [x], by simp [h1], fun i y hy => ?_⟩
        rcases Nat.lt_or_ge i n with h | h
        · rw [List.getElem?_append_left (by omega)] at hy
          exact h2 i y hy
        · rw [List.getElem?_append_right (by omega)] at hy
          have hi : i = n := by
            have := (List.getElem?_eq_some_iff.1 hy).1
            simp at this; omega
          subst hi
          simp only [h1, Nat.sub_self, List.getElem?_cons_zero, Option.some.injEq] at hy
          subst hy
          exact h3
    obtain ⟨l, hll, hcell⟩ := pick len hl
    refine ⟨some a, m, l, by rw [hll], by omega, ?_⟩
    cases hx : l with
    | nil => exact .inr ⟨_, _, rfl, rfl⟩
    | cons x0 r =>
      rw [← hx]
      have h0 := hcell 0 x0 (by rw [hx]; rfl) 0 (by omega)
      have hv0 : ∃ v, x0.cs[0]? = some v := ⟨_, List.getElem?_eq_getElem (by rw [x0.cs_len]; omega)⟩
      obtain ⟨v0, hv0⟩ := hv0
      rw [hv0, Nat.zero_mul, Deep.add_add] at h0
      have ha : a.add (0 + 0) = a := by unfold Addr.add; simp
      rw [ha] at h0
      obtain ⟨e, hb⟩ := plain_of_cell h0
      refine .inl ⟨a.block, a.off, m, by rw [e], by omega, hb, fun j x hj i v hi => ?_⟩
      have hi2 : i < 32 := by have := (List.getElem?_eq_some_iff.1 hi).1; rwa [x.cs_len] at this
      have := hcell j x hj i hi2
      rw [hi, Deep.add_add, e, add_off] at this
      rw [Nat.add_assoc]
      exact this
end Go.Proofs.Ytinkdkcmmjfhoaa
