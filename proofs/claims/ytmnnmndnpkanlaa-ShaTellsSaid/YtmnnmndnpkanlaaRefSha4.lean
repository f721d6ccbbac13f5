/- The document's Pad. -/
import Derived.Test.YtmnnmndnpkanlaaPadsMath
import Derived.Test.YtmnnmndnpkanlaaOwn2
namespace Go.Proofs.Ytmnnmndnpkanlaa
set_option linter.unusedVariables false
set_option linter.unusedSimpArgs false
open Go.RowKit
def lenV : Value → Nat
  | .slice _ n _ => n
  | _ => 0
theorem own_len {w : World} {base : Nat} {e : TypeId} {v : Value} {xs : List Value} (h : OwnR w base e v xs) : ∃ p c, v = .slice p xs.length c := shows_form h.shows
theorem tail_take (n k : Nat) (h : k < 8) : (tailk n 8).take (k + 1) = (tailk n 8).take k ++ [n / (72057594037927936 / 256 ^ k) % 256] := by
  rw [tailk_8]
  match k, h with
  | 0, _ => rfl
  | 1, _ => rfl
  | 2, _ => rfl
  | 3, _ => rfl
  | 4, _ => rfl
  | 5, _ => rfl
  | 6, _ => rfl
  | 7, _ => rfl
set_option maxRecDepth 100000 in
set_option maxHeartbeats 3200000 in
theorem rpad_w (l : List Nat) (v : Value) (w : World) (hl : l.length ≤ 1073741824) (hv : Shows w v (bys l)) :
    Calls Try.prog 11 #[v] w fun e w' => ∃ v', e = .returned v' ∧ OwnR w' w.heap.size 5 v' (bys (pad l)) ∧ Grew w w' := by
  obtain ⟨ib, hi, hz, hsz, hby⟩ := info_b
  obtain ⟨p, c, rfl⟩ := shows_form hv
  rw [bys_len] at hv ⊢
  have HV := Lib.hid hv
  clear hv
  have hpz := padz_lt l
  go_enter Try.func11, Try.ntmps11
  go_wp2_with (at_builtin; refine stop_of ?_)
  unfold Stop
  refine wpList_appends rfl _ _ _ rfl _ ib _ 1 under_bs hi hz hsz hby rfl w _ _ _ rfl rfl [] (bys l) (Grew.refl _) (by exact OwnR.nil _ _ _) (by exact HV.out) (bys_one l) (by rw [bys_len]; simp only [maxLen, List.length_nil]; omega) (by rw [bys_len]; simp only [List.length_nil]; omega) ?_
  intro v0 w1 ho0 hg0
  rw [List.nil_append] at ho0
  have HO := Lib.hid ho0
  have HG := Lib.hid hg0
  clear ho0 hg0
  go_wp2_with (at_builtin; refine stop_of ?_)
  unfold Stop
  refine wpList_append1 rfl _ _ _ rfl _ ib _ 1 under_bs hi hz hsz hby rfl w w1 _ _ rfl rfl (bys l) HG.out (by exact HO.out) rfl (by rw [bys_len]; simp only [maxLen]; omega) (by rw [bys_len]; omega) ?_
  intro v1 w2 ho1 hg1
  have HO1 := Lib.hid (show OwnR w2 w.heap.size 5 v1 (bys (l ++ 128 :: zeros 0)) by rw [bys_append]; exact ho1)
  have HG1 := Lib.hid hg1
  clear ho1 hg1 HO HG
  go_wp2
  go_loopw [3] (fun v wr => ∃ k : Nat, k ≤ padz l ∧ OwnR wr w.heap.size 5 v (bys (l ++ 128 :: zeros k)) ∧ Grew w wr) (fun v _ => l.length + 100 - lenV v)
  case atStart => exact ⟨0, by omega, HO1.out, HG1.out⟩
  case round =>
    clear HO1 HG1
    obtain ⟨k, hk, ho, hg⟩ := hrel
    have hlen : (bys (l ++ 128 :: zeros k)).length = l.length + 1 + k := by rw [bys_len]; simp [zeros_len]; omega
    obtain ⟨q, c', hv'⟩ := own_len ho
    rw [hlen] at hv'
    subst hv'
    have HO := Lib.hid ho
    have HG := Lib.hid hg
    clear ho hg
    obtain ⟨L, hL⟩ : ∃ L, l.length + 1 + k = L := ⟨_, rfl⟩
    rw [hL] at HO hlen ⊢
    by_cases hn : (L : Int) % 64 = 56
    · have hkk : k = padz l := by unfold padz at hk ⊢; omega
      have hn2 : (l.length : Int) ≤ 1073741824 := by omega
      have hLb : (L : Int) ≤ 2000000000 := by omega
      have HK := Lib.hid hkk
      have HL := Lib.hid hL
      clear hk hkk hL
      go_wp2
      clear hn hlen
      go_loopw [6, 3, 5] (fun i v y wr => ∃ k : Nat, k ≤ 8 ∧ i = .int .i64 k ∧ y = .int .u64 ((72057594037927936 / 256 ^ k : Nat) : Int) ∧ OwnR wr w.heap.size 5 v (bys ((l ++ 128 :: zeros (padz l)) ++ (tailk (8 * l.length) 8).take k)) ∧ Grew w wr) (fun i _ _ _ => 8 - (intOf i).toNat)
      case atStart => exact ⟨0, by omega, rfl, rfl, by rw [List.take_zero, List.append_nil, ← HK.out]; exact HO.out, HG.out⟩
      case round =>
        clear HO HG
        obtain ⟨m, hm, rfl, rfl, ho, hg⟩ := hrel
        have HO := Lib.hid ho
        have HG := Lib.hid hg
        clear ho hg
        by_cases hm8 : m < 8
        · have hlt : (m : Int) < 8 := by omega
          have ht := tail_take (8 * l.length) m hm8
          have hb1 : 1 ≤ 72057594037927936 / 256 ^ m := by
            match m, hm8 with
            | 0, _ => decide
            | 1, _ => decide
            | 2, _ => decide
            | 3, _ => decide
            | 4, _ => decide
            | 5, _ => decide
            | 6, _ => decide
            | 7, _ => decide
          have hb2 : 72057594037927936 / 256 ^ (m + 1) = 72057594037927936 / 256 ^ m / 256 := by rw [Nat.pow_succ, Nat.div_div_eq_div_mul]
          have hb3 : 72057594037927936 / 256 ^ m ≤ 72057594037927936 := Nat.div_le_self _ _
          obtain ⟨B, hB⟩ : ∃ B, 72057594037927936 / 256 ^ m = B := ⟨_, rfl⟩
          obtain ⟨B', hB'⟩ : ∃ B, 72057594037927936 / 256 ^ (m + 1) = B := ⟨_, rfl⟩
          rw [hB] at hb1 hb2 hb3 ht ⊢
          rw [hB'] at hb2
          have HB' := Lib.hid hB'
          have hlen2 : (bys ((l ++ 128 :: zeros (padz l)) ++ (tailk (8 * l.length) 8).take m)).length = l.length + 1 + padz l + m := by
            rw [bys_len]; simp [zeros_len, tailk_len]; omega
          have hnext : bys ((l ++ 128 :: zeros (padz l)) ++ (tailk (8 * l.length) 8).take (m + 1)) = bys ((l ++ 128 :: zeros (padz l)) ++ (tailk (8 * l.length) 8).take m) ++ [.int .u8 ((8 * l.length / B % 256 : Nat) : Int)] := by
            rw [ht, ← List.append_assoc, bys_append]; rfl
          have HN := Lib.hid hnext
          have hb4 : 1 ≤ (B : Int) := by omega
          have hb5 : (B : Int) ≠ 0 := by omega
          have hb6 : (B : Int) ≤ 72057594037927936 := by omega
          have hd1 : (8 * (l.length : Int)) / (B : Int) = ((8 * l.length / B : Nat) : Int) := by rw [Int.natCast_ediv]; rfl
          have hd2 : ((8 * l.length / B : Nat) : Int) % 256 = ((8 * l.length / B % 256 : Nat) : Int) := by rw [Int.natCast_emod]; rfl
          have hd3 : (B : Int) / 256 = (B' : Int) := by rw [hb2]; rfl
          have hd4 : 8 * l.length / B % 256 < 256 := Nat.mod_lt _ (by omega)
          have hd5 : 8 * l.length / B ≤ 8 * l.length := Nat.div_le_self _ _
          obtain ⟨Y, hY⟩ : ∃ Y, 8 * l.length / B % 256 = Y := ⟨_, rfl⟩
          rw [hY] at hd2 hd4 HN
          obtain ⟨X, hX⟩ : ∃ X, 8 * l.length / B = X := ⟨_, rfl⟩
          rw [hX] at hd1 hd2 hd5
          have hd6 : (X : Int) ≤ 18446744073709551615 := by omega
          clear hB hB' ht hnext hb1 hb2 hb3 hY hX hm hm8
          go_wp2_with (at_builtin; refine stop_of ?_)
          unfold Stop
          refine wpList_append1 rfl _ _ _ rfl _ ib _ 1 under_bs hi hz hsz hby rfl w wr _ _ rfl rfl _ HG.out (by exact HO.out) rfl (by rw [hlen2]; simp only [maxLen]; omega) (by rw [hlen2]; omega) ?_
          intro v2 w3 ho2 hg2
          have ho3 := HN.out ▸ ho2
          go_wp2
          exact ⟨⟨m + 1, by omega, by go_num, by rw [HB'.out], ho3, hg2⟩, by simp only [intOf]; omega⟩
        · obtain rfl : m = 8 := by omega
          go_wp2
          go_ret
          refine ⟨_, rfl, ?_, HG.out⟩
          have h8 : (tailk (8 * l.length) 8).take 8 = tailk (8 * l.length) 8 := List.take_of_length_le (by rw [tailk_len]; omega)
          have := HO.out
          rw [h8, List.append_assoc, List.cons_append] at this
          exact this
    · have hlt : k < padz l := by unfold padz at hk ⊢; omega
      have hne : ¬ ((L : Int) % 64 = 56) := hn
      have HLL := Lib.hid hL
      clear hk hL
      go_wp2_with (at_builtin; refine stop_of ?_)
      unfold Stop
      refine wpList_append1 rfl _ _ _ rfl _ ib _ 1 under_bs hi hz hsz hby rfl w wr _ _ rfl rfl _ HG.out (by exact HO.out) rfl (by rw [hlen]; simp only [maxLen]; have := HLL.out; omega) (by rw [hlen]; have := HLL.out; omega) ?_
      intro v2 w3 ho2 hg2
      obtain ⟨q2, c2, hv2⟩ := own_len ho2
      have hlen3 : (bys (l ++ 128 :: zeros k) ++ [Value.int .u8 0]).length = L + 1 := by rw [List.length_append, hlen]; rfl
      rw [hlen3] at hv2
      subst hv2
      go_wp2
      exact ⟨⟨k + 1, by omega, by rw [zeros_succ, show l ++ 128 :: (zeros k ++ [0]) = (l ++ 128 :: zeros k) ++ [0] by simp, bys_append]; exact ho2, hg2⟩, by simp only [lenV]; have := HLL.out; omega⟩
end Go.Proofs.Ytmnnmndnpkanlaa
