/- What the statements of this chapter rest on, part 2. Conditions: none. -/
import Derived.Test.YtnhcamklammcdaaRows
import Derived.Deep.MidRow
import Derived.Laws.Externs
import Derived.DeepKeys
import Derived.Laws.StructEq
import Derived.Test.YtnhcamklammcdaaM1
/- slices.Grow, slices.Concat of bytes. -/
namespace Go.Proofs.Ytnhcamklammcdaa
set_option linter.unusedVariables false
set_option linter.unusedSimpArgs false
open Go.RowKit
/-- The cells of bytes. -/
def bys (l : List Nat) : List Value := l.map fun (c : Nat) => Value.int .u8 (c : Int)
theorem bys_len (l : List Nat) : (bys l).length = l.length := by simp [bys]
theorem bys_append (l m : List Nat) : bys (l ++ m) = bys l ++ bys m := by simp [bys]
theorem bys_one (l : List Nat) : ∀ x ∈ bys l, x.oneCell' = true := by
  intro x hx
  obtain ⟨c, _, rfl⟩ := List.mem_map.1 hx
  rfl
theorem under_bs : Try.prog.underlying 65 = some (.slice 5) := by kernel_rfl
set_option maxRecDepth 100000 in
theorem info_b : ∃ i, Try.prog.info? 5 = some i ∧ i.zero = some (.int .u8 0) ∧ i.size = 1 ∧ i.bytes = 1 := by
  refine ⟨_, rfl, ?_, ?_, ?_⟩ <;> kernel_rfl
set_option maxRecDepth 100000 in
set_option maxHeartbeats 1600000 in
theorem grow_w (n : Nat) (hn : n ≤ 1099511627776) (w : World) :
    Calls Try.prog 70 #[.slice none 0 0, .int .i64 (n : Int)] w fun e w' => ∃ v, e = .returned v ∧ OwnR w' w.heap.size 5 v [] ∧ Grew w w' := by
  obtain ⟨i, hi, hz, hs, hb⟩ := info_b
  by_cases h0 : n = 0
  · subst h0
    go_enter Try.func70, Try.ntmps70
    go_wp2
    go_ret
    exact ⟨_, rfl, OwnR.nil _ _ _, (by repeat (first | with_reducible exact Grew.refl _ | with_reducible apply Grew.alloc | with_reducible apply Grew.grow | with_reducible apply Grew.drew | with_reducible apply Grew.drewN))⟩
  · have h1 : ¬ ((n : Int) < 0) := by omega
    have h2 : 0 < (n : Int) := by omega
    have hr := fun w => Lib.run_append_nil_zeros (P := Try.prog) w 65 3 65 5 i (.int .u8 0) .i64 .i64 under_bs (by kernel_rfl) hi hz n (by omega) (by omega) (by omega) (by rw [hb]; omega)
    go_enter Try.func70, Try.ntmps70
    go_wp2_with (at_builtin; refine Lib.wpList_append_run _ rfl _ _ _ _ rfl _ _ rfl rfl _ _ (hr _) ?_)
    go_ret
    have hcap := grownCap_ge w n 0 5
    have hmax := grownCap_le_maxLen w n 0 5 (by simp only [maxLen]; omega)
    exact ⟨_, rfl, ⟨rfl, .inr ⟨_, _, _, rfl, Nat.le_refl _, heap_alloc_new w _, Nat.zero_le _, hmax, by simp [Builtin.zeroCells, Value.cells]; omega, rfl⟩⟩, (by repeat (first | with_reducible exact Grew.refl _ | with_reducible apply Grew.alloc | with_reducible apply Grew.grow | with_reducible apply Grew.drew | with_reducible apply Grew.drewN))⟩
def catk (ls : List (List Nat)) (k : Nat) : List Nat := (ls.take k).flatten
theorem catk_0 (ls : List (List Nat)) : catk ls 0 = [] := by simp [catk]
theorem catk_succ (ls : List (List Nat)) (k : Nat) (h : k < ls.length) : catk ls (k + 1) = catk ls k ++ ls.getD k [] := by
  unfold catk
  rw [List.take_add_one, List.flatten_append]
  congr 1
  simp [List.getD, h]
theorem catk_all (ls : List (List Nat)) : catk ls ls.length = ls.flatten := by simp [catk]
theorem catk_le (ls : List (List Nat)) (k : Nat) : (catk ls k).length ≤ ls.flatten.length := by
  unfold catk
  conv => rhs; rw [← List.take_append_drop k ls]
  rw [List.flatten_append, List.length_append]
  omega
theorem catk_len (ls : List (List Nat)) (k : Nat) (h : k < ls.length) : (catk ls (k + 1)).length = (catk ls k).length + (ls.getD k []).length := by rw [catk_succ ls k h, List.length_append]
theorem shows_form {w : World} {v : Value} {xs : List Value} (h : Shows w v xs) : ∃ p c, v = .slice p xs.length c := by
  rcases h with ⟨b, o, c, rfl, _⟩ | ⟨p, c, rfl, rfl⟩
  · exact ⟨_, _, rfl⟩
  · exact ⟨_, _, rfl⟩
/-- Here the walk halts. -/
def Stop (p : Prop) : Prop := p
theorem stop_of {p : Prop} (h : Stop p) : p := h
set_option maxRecDepth 100000 in
set_option maxHeartbeats 1600000 in
theorem concat_w (ls : List (List Nat)) (vs : List Value) (lv : Value) (w : World) (hvs : vs.length = ls.length) (hl : Shows w lv vs)
    (hs : ∀ k, k < ls.length → Shows w (vs.getD k undef) (bys (ls.getD k []))) (hN : ls.flatten.length ≤ 1099511627776) (hL : ls.length ≤ 1099511627776) :
    Calls Try.prog 56 #[lv] w fun e w' => ∃ v, e = .returned v ∧ OwnR w' w.heap.size 5 v (bys ls.flatten) ∧ Grew w w' := by
  obtain ⟨i, hi, hz, hsz, hby⟩ := info_b
  rcases hl with ⟨b, o, c, rfl, hb, hc⟩ | ⟨p0, c0, rfl, h0⟩
  · have HC := Lib.hid hc
    have HS := Lib.hid hs
    have HV := Lib.hid hvs
    rw [hvs]
    clear hc hs hvs
    go_enter Try.func56, Try.ntmps56
    go_wp2
    go_loopw [11, 3] (fun n m wr => ∃ k : Nat, k ≤ ls.length ∧ n = .int .i64 k ∧ m = .int .i64 ((catk ls k).length : Nat) ∧ wr = w) (fun n _ _ => ls.length - (intOf n).toNat)
    case atStart => exact ⟨0, by omega, rfl, rfl, rfl⟩
    case round =>
      obtain ⟨k, hk, rfl, rfl, rfl⟩ := hrel
      by_cases hn : k < ls.length
      · have hlt : (k : Int) < (ls.length : Int) := by omega
        obtain ⟨p, c', hv⟩ := shows_form (HS.out k hn)
        have hcell := HC.out k (.slice p (bys (ls.getD k [])).length c') (by rw [← hv]; simp [List.getD, HV.out, hn])
        rw [bys_len] at hcell
        have e1 := catk_len ls k hn
        have e2 := catk_le ls (k + 1)
        have e3 : (((catk ls k).length : Int) + ((ls.getD k []).length : Int)) = ((catk ls (k + 1)).length : Nat) := by omega
        have e4 : ¬ (((catk ls (k + 1)).length : Int) < 0) := by omega
        clear hv
        generalize (ls.getD k []).length = q at *
        have e6 : IntKind.i64.wrap (((catk ls k).length : Int) + (q : Int)) = ((catk ls (k + 1)).length : Nat) := by rw [IntKind.wrap_i64]; omega
        clear e1 e2 e3
        obtain ⟨q1, hq1⟩ : ∃ q1, (catk ls k).length = q1 := ⟨_, rfl⟩
        obtain ⟨q2, hq2⟩ : ∃ q2, (catk ls (k + 1)).length = q2 := ⟨_, rfl⟩
        rw [hq1, hq2] at e6
        rw [hq2] at e4
        rw [hq1]
        have HQ := Lib.hid hq2
        clear hq1 hq2
        go_wp2
        exact ⟨⟨k + 1, by omega, by go_num, by rw [HQ.out], trivial⟩, by simp only [intOf]; omega⟩
      · obtain rfl : k = ls.length := by omega
        clear hk hn
        have hge : ¬ ((ls.length : Int) < (ls.length : Int)) := by omega
        go_wp2_with (go_at_call 70; refine (grow_w _ (by rw [catk_all]; exact hN) _).mono ?_; rintro e w' ⟨v, rfl, ho, hg⟩)
        have HG := Lib.hid hg
        have HO := Lib.hid ho
        have hb2 : wr.heap.size ≤ w'.heap.size := hg.size
        clear hg ho
        go_loopw [27, 6] (fun n v2 w2 => ∃ k : Nat, k ≤ ls.length ∧ n = .int .i64 k ∧ OwnR w2 wr.heap.size 5 v2 (bys (catk ls k)) ∧ Grew wr w2) (fun n _ _ => ls.length - (intOf n).toNat)
        case atStart => exact ⟨0, by omega, rfl, by rw [catk_0]; exact HO.out, HG.out⟩
        case round =>
          obtain ⟨k, hk, rfl, ho2, hg2⟩ := hrel
          by_cases hn : k < ls.length
          · have hlt : (k : Int) < (ls.length : Int) := by omega
            have hsk := (HS.out k hn).grew hg2
            obtain ⟨p, c', hv⟩ := shows_form (HS.out k hn)
            rw [hv, bys_len] at hsk
            have hcell := hg2.cell (HC.out k (.slice p (bys (ls.getD k [])).length c') (by rw [← hv]; simp [List.getD, HV.out, hn]))
            rw [bys_len] at hcell
            have e1 := catk_len ls k hn
            have e2 := catk_le ls (k + 1)
            have HS2 := hsk
            have HO2 := Lib.hid ho2
            have HG2 := Lib.hid hg2
            have hsz2 := hg2.size
            have e7 := catk_succ ls k hn
            obtain ⟨m, hm⟩ : ∃ m, ls.getD k [] = m := ⟨_, rfl⟩
            rw [hm] at HS2 hcell e1 e7
            have E7 := Lib.hid e7
            have HS3 := Lib.hid HS2
            clear HS2
            clear hv hsk ho2 hg2 hm e7
            go_wp2_with (at_builtin; refine stop_of ?_)
            unfold Stop
            refine wpList_append_shows rfl _ _ _ rfl _ _ i _ 1 under_bs hi hz hsz hby rfl _ _ rfl rfl _ _ HO2.out HS3.out (bys_one _) (by rw [bys_len, bys_len]; simp only [maxLen]; omega) (by rw [bys_len, bys_len]; omega) hsz2 ?_
            intro v' w2' ho' hg'
            have hrow := HO2.out.block
            go_wp2
            refine ⟨⟨k + 1, by omega, by go_num, by rw [E7.out, bys_append]; exact ho', Grew.grown HG2.out hg' fun j hj => (hrow j hj).1⟩, by simp only [intOf]; omega⟩
          · obtain rfl : k = ls.length := by omega
            clear hk hn
            have hge : ¬ ((ls.length : Int) < (ls.length : Int)) := by omega
            rw [catk_all] at ho2
            go_wp2
            go_ret
            exact ⟨_, rfl, ho2, hg2⟩
  · obtain rfl : vs = [] := h0
    obtain rfl : ls = [] := List.length_eq_zero_iff.1 hvs.symm
    go_enter Try.func56, Try.ntmps56
    go_wp2
    go_loopw [11, 3] (fun n m wr => n = .int .i64 0 ∧ m = .int .i64 0 ∧ wr = w) (fun _ _ _ => 0)
    case atStart => exact ⟨rfl, rfl, rfl⟩
    case round =>
      obtain ⟨rfl, rfl, rfl⟩ := hrel
      go_wp2_with (go_at_call 70; refine (grow_w 0 (by omega) _).mono ?_; rintro e w' ⟨v, rfl, ho, hg⟩)
      have HG := Lib.hid hg
      have HO := Lib.hid ho
      clear hg ho
      go_loopw [27, 6] (fun n v2 w2 => n = .int .i64 0 ∧ OwnR w2 wr.heap.size 5 v2 [] ∧ Grew wr w2) (fun _ _ _ => 0)
      case atStart => exact ⟨rfl, HO.out, HG.out⟩
      case round =>
        obtain ⟨rfl, ho2, hg2⟩ := hrel
        go_wp2
        go_ret
        exact ⟨_, rfl, ho2, hg2⟩
end Go.Proofs.Ytnhcamklammcdaa
/- Slices of ids, arrays of two ids. -/
namespace Go.Proofs.Ytnhcamklammcdaa
set_option linter.unusedVariables false
set_option linter.unusedSimpArgs false
open Go.RowKit
/-- An id's cells. -/
def Idb.cs (x : Idb) : List Value := bys x.l
theorem Idb.cs_len (x : Idb) : x.cs.length = 32 := by unfold Idb.cs; rw [bys_len, x.len]
theorem bys_iv (l : List Nat) : (bys l).toArray = iv l := rfl
theorem World.rangeAt.grew {w w' : World} {b o : Nat} {cs : List Value} (h : w.rangeAt b o cs) (g : Grew w w') : w'.rangeAt b o cs := fun j v hj => g.cell (h j v hj)
theorem size_id : (Try.prog.info? 24).map (·.size) = some 32 := by kernel_rfl
/-- The load of an id from the middle of a block. -/
theorem load_idm {w : World} {b o : Nat} {x : Idb} (h : w.rangeAt b o x.cs) : (rowLoad 24 (.pointer (some ⟨b, o, none⟩))).run Try.prog w = .ok (.value (.agg (iv x.l))) w := by
  unfold rowLoad
  rw [Sem.run_bind, run_loadAt_mid w b o 24 x.cs _ h under_id rfl (by rw [x.cs_len]; exact size_id)]
  rfl
theorem load_idg {w : World} {b o : Nat} {x : Idb} (h : w.rangeAt b o x.cs) (δ : Junk) : (rowLoad 24 (.pointer (some ⟨b, o, none⟩))).run Try.prog (w.grow δ) = .ok (.value (.agg (iv x.l))) (w.grow δ) := load_idm (World.rangeAt.grew h ⟨δ, rfl⟩)
/-- The slice shows these ids. -/
def ShowsI (w : World) (v : Value) (ls : List Idb) : Prop :=
  (∃ b o c, v = .slice (some ⟨b, o, none⟩) ls.length c ∧ ls.length ≤ c ∧ b < w.heap.size ∧ ∀ j x, ls[j]? = some x → w.rangeAt b (o + j * 32) x.cs) ∨ (∃ p c, v = .slice p 0 c ∧ ls = [])
theorem ShowsI.grew {w w' : World} {v : Value} {ls : List Idb} (h : ShowsI w v ls) (g : Grew w w') : ShowsI w' v ls := by
  rcases h with ⟨b, o, c, rfl, hc, hb, h⟩ | h
  · exact .inl ⟨b, o, c, rfl, hc, Nat.lt_of_lt_of_le hb g.size, fun j x hj => World.rangeAt.grew (h j x hj) g⟩
  · exact .inr h
theorem showsI_form {w : World} {v : Value} {ls : List Idb} (h : ShowsI w v ls) : ∃ p c, v = .slice p ls.length c := by
  rcases h with ⟨b, o, c, rfl, _⟩ | ⟨p, c, rfl, rfl⟩
  · exact ⟨_, _, rfl⟩
  · exact ⟨_, _, rfl⟩
theorem showsI_some {w : World} {p : Option Addr} {n c : Nat} {ls : List Idb} (h : ShowsI w (.slice p n c) ls) (hne : 0 < ls.length) : ∃ b o, p = some ⟨b, o, none⟩ ∧ n = ls.length ∧ ls.length ≤ c ∧ b < w.heap.size ∧ ∀ j x, ls[j]? = some x → w.rangeAt b (o + j * 32) x.cs := by
  rcases h with ⟨b, o, c', he, hc, hb, h⟩ | ⟨p', c', he, rfl⟩
  · simp only [Value.slice.injEq] at he
    exact ⟨b, o, he.1, he.2.1, he.2.2 ▸ hc, hb, h⟩
  · simp at hne
/-- A part of the ids. -/
theorem showsI_part {w : World} {b o : Nat} {ls : List Idb} (hb : b < w.heap.size) (h : ∀ j x, ls[j]? = some x → w.rangeAt b (o + j * 32) x.cs) (i n c' : Nat) (hi : i + n ≤ ls.length) (hc : n ≤ c') : ShowsI w (.slice (some ⟨b, o + i * 32, none⟩) n c') ((ls.drop i).take n) := by
  have hlen : ((ls.drop i).take n).length = n := by rw [List.length_take, List.length_drop]; omega
  refine .inl ⟨b, o + i * 32, c', by rw [hlen], by omega, hb, fun j x hj => ?_⟩
  have hj2 : j < n := by have := (List.getElem?_eq_some_iff.1 hj).1; omega
  rw [List.getElem?_take, if_pos hj2, List.getElem?_drop] at hj
  have := h (i + j) x hj
  rwa [show o + (i + j) * 32 = o + i * 32 + j * 32 by omega] at this
theorem foldl_set (cs : List Value) : ∀ (k off : Nat) (C : Array Value), off + k + cs.length ≤ C.size → ((cs.zipIdx k).foldl (fun C (c, j) => C.setIfInBounds (off + j) c) C).toList = C.toList.take (off + k) ++ cs ++ C.toList.drop (off + k + cs.length) := by
  induction cs with
  | nil => intro k off C _; simp
  | cons c cs ih =>
    intro k off C h
    rw [List.zipIdx_cons, List.foldl_cons, ih (k + 1) off _ (by simpa using (by simp at h; omega))]
    simp only [List.length_cons] at h
    have hlt : off + k < C.toList.length := by simp; omega
    rw [Array.toList_setIfInBounds]
    rw [List.take_set, List.drop_set_of_lt (by omega)]
    rw [show off + (k + 1) = off + k + 1 by omega, List.take_add_one, List.getElem?_eq_getElem hlt]
    rw [List.set_append_right _ _ (by simp; omega)]
    simp only [List.length_cons, Option.toList_some, List.length_take]
    rw [show off + k - min (off + k) C.toList.length = 0 by omega]
    simp [show off + k + 1 + cs.length = off + k + (cs.length + 1) by omega]
end Go.Proofs.Ytnhcamklammcdaa
/- Words of 32 bits, and sha's right. -/
namespace Go.Proofs.Ytnhcamklammcdaa
set_option linter.unusedVariables false
set_option linter.unusedSimpArgs false
open Go.RowKit

/-- A word as an int: nothing opens it. -/
def u (x : BitVec 32) : Int := (x.toNat : Int)
theorem u_bd (x : BitVec 32) : 0 ≤ u x ∧ u x < 4294967296 := by unfold u; have := x.isLt; omega
theorem bv_u (x : BitVec 32) : BitVec.ofInt 32 (u x) = x := by
  unfold u
  apply BitVec.eq_of_toNat_eq
  rw [BitVec.ofInt_natCast, BitVec.toNat_ofNat]
  exact Nat.mod_eq_of_lt x.isLt
theorem wrap_u (x : BitVec 32) : IntKind.u32.wrap (u x) = u x := by
  have := u_bd x
  show (u x) % 4294967296 = _
  omega
attribute [go_sem] wrap_u
@[go_sem] theorem bits_xor_u (x y : BitVec 32) : bits .xor .u32 (u x) (u y) = u (x ^^^ y) := by
  show IntKind.u32.wrap ((BitVec.ofInt 32 (u x) ^^^ BitVec.ofInt 32 (u y)).toNat : Int) = _
  rw [bv_u, bv_u]; exact wrap_u _
@[go_sem] theorem bits_and_u (x y : BitVec 32) : bits .and .u32 (u x) (u y) = u (x &&& y) := by
  show IntKind.u32.wrap ((BitVec.ofInt 32 (u x) &&& BitVec.ofInt 32 (u y)).toNat : Int) = _
  rw [bv_u, bv_u]; exact wrap_u _
@[go_sem] theorem bits_or_u (x y : BitVec 32) : bits .or .u32 (u x) (u y) = u (x ||| y) := by
  show IntKind.u32.wrap ((BitVec.ofInt 32 (u x) ||| BitVec.ofInt 32 (u y)).toNat : Int) = _
  rw [bv_u, bv_u]; exact wrap_u _
@[go_sem] theorem bits_not_u (x : BitVec 32) : bits .xor .u32 IntKind.u32.max (u x) = u (~~~ x) := by
  show IntKind.u32.wrap ((BitVec.ofInt 32 IntKind.u32.max ^^^ BitVec.ofInt 32 (u x)).toNat : Int) = _
  rw [bv_u, show BitVec.ofInt 32 IntKind.u32.max = BitVec.allOnes 32 from rfl, BitVec.allOnes_xor]; exact wrap_u _
@[go_sem] theorem wrap_add_u (x y : BitVec 32) : IntKind.u32.wrap (u x + u y) = u (x + y) := by
  unfold u
  rw [BitVec.toNat_add]
  show ((x.toNat : Int) + (y.toNat : Int)) % 4294967296 = _
  omega
theorem u_div (x : BitVec 32) (k : Nat) : u x / 2 ^ k = u (x >>> k) := by
  unfold u
  rw [BitVec.toNat_ushiftRight, Nat.shiftRight_eq_div_pow, Int.natCast_ediv, Int.natCast_pow]; rfl
theorem u_mul (x : BitVec 32) (k : Nat) : IntKind.u32.wrap (u x * 2 ^ k) = u (x <<< k) := by
  unfold u
  rw [BitVec.toNat_shiftLeft, Nat.shiftLeft_eq]
  show ((x.toNat : Int) * 2 ^ k) % 4294967296 = _
  rw [Int.natCast_emod, Int.natCast_mul, Int.natCast_pow]; rfl
theorem rot_u (x : BitVec 32) (s : Nat) (h : s < 32) : bits .or .u32 (IntKind.u32.wrap (u x * 2 ^ s)) (u x / 2 ^ (32 - s)) = u (x.rotateLeft s) := by
  rw [u_mul, u_div, bits_or_u]
  congr 1
  rw [BitVec.rotateLeft_def, Nat.mod_eq_of_lt h]
/-- The word, turned to the right. -/
def rr (n : Nat) (x : BitVec 32) : BitVec 32 := x.rotateLeft (32 - n)
def rotOk (n : Nat) : Prop := n = 2 ∨ n = 6 ∨ n = 7 ∨ n = 11 ∨ n = 13 ∨ n = 17 ∨ n = 18 ∨ n = 19 ∨ n = 22 ∨ n = 25

set_option maxRecDepth 100000 in
set_option maxHeartbeats 1600000 in
theorem rotl_w (x : BitVec 32) (n : Nat) (hn : rotOk n) (w : World) :
    Calls Try.prog 75 #[.int .u32 (u x), .int .i64 (-(n : Int))] w fun e w' => e = .returned (.int .u32 (u (rr n x))) ∧ Grew w w' := by
  have hr := fun s h => rot_u x s h
  have b0 := (u_bd x).1
  rcases hn with rfl | rfl | rfl | rfl | rfl | rfl | rfl | rfl | rfl | rfl
  · have h := hr 30 (by omega)
    have hs : bits .and .u64 (IntKind.u64.wrap (-2)) 31 = 30 := by decide +kernel
    have hs2 : bits .and .u64 (IntKind.u64.wrap (-(((2 : Nat) : Int)))) 31 = 30 := by decide +kernel
    simp only [Nat.reduceSub] at h
    clear hr
    go_enter Try.func75, Try.ntmps75
    go_wp2
    go_ret
    exact ⟨congrArg (fun n : Int => Ending.returned (.int .u32 n)) h, (by repeat (first | with_reducible exact Grew.refl _ | with_reducible apply Grew.alloc | with_reducible apply Grew.grow | with_reducible apply Grew.drew | with_reducible apply Grew.drewN))⟩
  · have h := hr 26 (by omega)
    have hs : bits .and .u64 (IntKind.u64.wrap (-6)) 31 = 26 := by decide +kernel
    have hs2 : bits .and .u64 (IntKind.u64.wrap (-(((6 : Nat) : Int)))) 31 = 26 := by decide +kernel
    simp only [Nat.reduceSub] at h
    clear hr
    go_enter Try.func75, Try.ntmps75
    go_wp2
    go_ret
    exact ⟨congrArg (fun n : Int => Ending.returned (.int .u32 n)) h, (by repeat (first | with_reducible exact Grew.refl _ | with_reducible apply Grew.alloc | with_reducible apply Grew.grow | with_reducible apply Grew.drew | with_reducible apply Grew.drewN))⟩
  · have h := hr 25 (by omega)
    have hs : bits .and .u64 (IntKind.u64.wrap (-7)) 31 = 25 := by decide +kernel
    have hs2 : bits .and .u64 (IntKind.u64.wrap (-(((7 : Nat) : Int)))) 31 = 25 := by decide +kernel
    simp only [Nat.reduceSub] at h
    clear hr
    go_enter Try.func75, Try.ntmps75
    go_wp2
    go_ret
    exact ⟨congrArg (fun n : Int => Ending.returned (.int .u32 n)) h, (by repeat (first | with_reducible exact Grew.refl _ | with_reducible apply Grew.alloc | with_reducible apply Grew.grow | with_reducible apply Grew.drew | with_reducible apply Grew.drewN))⟩
  · have h := hr 21 (by omega)
    have hs : bits .and .u64 (IntKind.u64.wrap (-11)) 31 = 21 := by decide +kernel
    have hs2 : bits .and .u64 (IntKind.u64.wrap (-(((11 : Nat) : Int)))) 31 = 21 := by decide +kernel
    simp only [Nat.reduceSub] at h
    clear hr
    go_enter Try.func75, Try.ntmps75
    go_wp2
    go_ret
    exact ⟨congrArg (fun n : Int => Ending.returned (.int .u32 n)) h, (by repeat (first | with_reducible exact Grew.refl _ | with_reducible apply Grew.alloc | with_reducible apply Grew.grow | with_reducible apply Grew.drew | with_reducible apply Grew.drewN))⟩
  · have h := hr 19 (by omega)
    have hs : bits .and .u64 (IntKind.u64.wrap (-13)) 31 = 19 := by decide +kernel
    have hs2 : bits .and .u64 (IntKind.u64.wrap (-(((13 : Nat) : Int)))) 31 = 19 := by decide +kernel
    simp only [Nat.reduceSub] at h
    clear hr
    go_enter Try.func75, Try.ntmps75
    go_wp2
    go_ret
    exact ⟨congrArg (fun n : Int => Ending.returned (.int .u32 n)) h, (by repeat (first | with_reducible exact Grew.refl _ | with_reducible apply Grew.alloc | with_reducible apply Grew.grow | with_reducible apply Grew.drew | with_reducible apply Grew.drewN))⟩
  · have h := hr 15 (by omega)
    have hs : bits .and .u64 (IntKind.u64.wrap (-17)) 31 = 15 := by decide +kernel
    have hs2 : bits .and .u64 (IntKind.u64.wrap (-(((17 : Nat) : Int)))) 31 = 15 := by decide +kernel
    simp only [Nat.reduceSub] at h
    clear hr
    go_enter Try.func75, Try.ntmps75
    go_wp2
    go_ret
    exact ⟨congrArg (fun n : Int => Ending.returned (.int .u32 n)) h, (by repeat (first | with_reducible exact Grew.refl _ | with_reducible apply Grew.alloc | with_reducible apply Grew.grow | with_reducible apply Grew.drew | with_reducible apply Grew.drewN))⟩
  · have h := hr 14 (by omega)
    have hs : bits .and .u64 (IntKind.u64.wrap (-18)) 31 = 14 := by decide +kernel
    have hs2 : bits .and .u64 (IntKind.u64.wrap (-(((18 : Nat) : Int)))) 31 = 14 := by decide +kernel
    simp only [Nat.reduceSub] at h
    clear hr
    go_enter Try.func75, Try.ntmps75
    go_wp2
    go_ret
    exact ⟨congrArg (fun n : Int => Ending.returned (.int .u32 n)) h, (by repeat (first | with_reducible exact Grew.refl _ | with_reducible apply Grew.alloc | with_reducible apply Grew.grow | with_reducible apply Grew.drew | with_reducible apply Grew.drewN))⟩
  · have h := hr 13 (by omega)
    have hs : bits .and .u64 (IntKind.u64.wrap (-19)) 31 = 13 := by decide +kernel
    have hs2 : bits .and .u64 (IntKind.u64.wrap (-(((19 : Nat) : Int)))) 31 = 13 := by decide +kernel
    simp only [Nat.reduceSub] at h
    clear hr
    go_enter Try.func75, Try.ntmps75
    go_wp2
    go_ret
    exact ⟨congrArg (fun n : Int => Ending.returned (.int .u32 n)) h, (by repeat (first | with_reducible exact Grew.refl _ | with_reducible apply Grew.alloc | with_reducible apply Grew.grow | with_reducible apply Grew.drew | with_reducible apply Grew.drewN))⟩
  · have h := hr 10 (by omega)
    have hs : bits .and .u64 (IntKind.u64.wrap (-22)) 31 = 10 := by decide +kernel
    have hs2 : bits .and .u64 (IntKind.u64.wrap (-(((22 : Nat) : Int)))) 31 = 10 := by decide +kernel
    simp only [Nat.reduceSub] at h
    clear hr
    go_enter Try.func75, Try.ntmps75
    go_wp2
    go_ret
    exact ⟨congrArg (fun n : Int => Ending.returned (.int .u32 n)) h, (by repeat (first | with_reducible exact Grew.refl _ | with_reducible apply Grew.alloc | with_reducible apply Grew.grow | with_reducible apply Grew.drew | with_reducible apply Grew.drewN))⟩
  · have h := hr 7 (by omega)
    have hs : bits .and .u64 (IntKind.u64.wrap (-25)) 31 = 7 := by decide +kernel
    have hs2 : bits .and .u64 (IntKind.u64.wrap (-(((25 : Nat) : Int)))) 31 = 7 := by decide +kernel
    simp only [Nat.reduceSub] at h
    clear hr
    go_enter Try.func75, Try.ntmps75
    go_wp2
    go_ret
    exact ⟨congrArg (fun n : Int => Ending.returned (.int .u32 n)) h, (by repeat (first | with_reducible exact Grew.refl _ | with_reducible apply Grew.alloc | with_reducible apply Grew.grow | with_reducible apply Grew.drew | with_reducible apply Grew.drewN))⟩
set_option maxRecDepth 100000 in
set_option maxHeartbeats 1600000 in
theorem right_w (x : BitVec 32) (n : Nat) (hn : rotOk n) (w : World) :
    Calls Try.prog 68 #[.int .u32 (u x), .int .i64 (n : Int)] w fun e w' => e = .returned (.int .u32 (u (rr n x))) ∧ Grew w w' := by
  have hb : n ≤ 25 := by unfold rotOk at hn; omega
  have Hc := Lib.hid (fun w => rotl_w x n hn w)
  clear hn
  go_enter Try.func68, Try.ntmps68
  go_wp2_with (go_at_call 75; refine (Hc.out _).mono ?_; rintro e w' ⟨rfl, δ, rfl⟩)
  go_ret
  exact ⟨rfl, (by repeat (first | with_reducible exact Grew.refl _ | with_reducible apply Grew.alloc | with_reducible apply Grew.grow | with_reducible apply Grew.drew | with_reducible apply Grew.drewN))⟩
end Go.Proofs.Ytnhcamklammcdaa
/- Arrays of words; what sha computes; its numbers. -/
namespace Go.Proofs.Ytnhcamklammcdaa
set_option linter.unusedVariables false
set_option linter.unusedSimpArgs false
open Go.RowKit

/-- The cells of words. -/
def uv (l : List (BitVec 32)) : Array Value := (l.map fun x => Value.int .u32 (u x)).toArray
theorem uv_size (l : List (BitVec 32)) : (uv l).size = l.length := by simp [uv]
def wordAt (l : List (BitVec 32)) (i : Nat) : BitVec 32 := l.getD i 0
theorem wordAt_eq (l : List (BitVec 32)) (i : Nat) (h : i < l.length) : wordAt l i = l[i] := by simp [wordAt, h]
theorem uv_at (l : List (BitVec 32)) (i : Nat) (h : i < l.length) : (uv l)[i]? = some (.int .u32 (u (wordAt l i))) := by rw [wordAt_eq l i h]; simp [uv, h]
theorem uv_elem (l : List (BitVec 32)) (i : Nat) (h : i < (uv l).size) : (uv l)[i] = .int .u32 (u (wordAt l i)) := by
  have h1 := uv_at l i (by rw [uv_size] at h; exact h)
  rw [Array.getElem?_eq_getElem h] at h1
  exact Option.some.inj h1
theorem uv_set (l : List (BitVec 32)) (i : Nat) (x : BitVec 32) : (uv l).setIfInBounds i (.int .u32 (u x)) = uv (l.set i x) := by
  unfold uv; rw [List.setIfInBounds_toArray, List.map_set]
theorem uv_all (l : List (BitVec 32)) : (uv l).all (·.oneCell') = true := by
  rw [Array.all_eq_true_iff_forall_mem]
  intro v hv
  unfold uv at hv
  simp only [List.mem_toArray, List.mem_map] at hv
  obtain ⟨c, _, rfl⟩ := hv
  rfl
attribute [go_sem] uv_size uv_at uv_elem uv_set uv_all

theorem rowType_w : Try.prog.rowType 100 64 = true := by kernel_rfl
theorem rowType_s : Try.prog.rowType 82 8 = true := by kernel_rfl
def w0 : List (BitVec 32) := List.replicate 64 0
def s0 : List (BitVec 32) := List.replicate 8 0
@[go_sem] theorem w0_len : w0.length = 64 := by simp [w0]
@[go_sem] theorem s0_len : s0.length = 8 := by simp [s0]
theorem zero_w : (Try.prog.info? 100).map (·.zero) = some (some (.agg (uv w0))) := by kernel_rfl
theorem zero_s : (Try.prog.info? 82).map (·.zero) = some (some (.agg (uv s0))) := by kernel_rfl
section
variable (ρ : Operand → Value) (d : Option Tmp) (x y : Operand) (t : TypeId) (p : String) (a : Array Edge) (g : Option (Nat × Bool))
@[go_sem ↓] theorem ex_load_ws : execOp ρ ⟨d, .load 100 x, t, p, a, g⟩ = rowLoad 100 (ρ x) := rfl
@[go_sem ↓] theorem ex_store_ws : execOp ρ ⟨d, .store 100 x y, t, p, a, g⟩ = rowStore 100 (ρ x) (ρ y) := rfl
@[go_sem ↓] theorem ex_alloc_ws : execOp ρ ⟨d, .alloc 100, t, p, a, g⟩ = rowAlloc 100 := rfl
@[go_sem ↓] theorem ex_load_st : execOp ρ ⟨d, .load 82 x, t, p, a, g⟩ = rowLoad 82 (ρ x) := rfl
@[go_sem ↓] theorem ex_store_st : execOp ρ ⟨d, .store 82 x y, t, p, a, g⟩ = rowStore 82 (ρ x) (ρ y) := rfl
@[go_sem ↓] theorem ex_alloc_st : execOp ρ ⟨d, .alloc 82, t, p, a, g⟩ = rowAlloc 82 := rfl
end
section
variable (w : World) (g : Nat)
@[go_sem] theorem load_ws (h : (w.rowAt g).size = 64) : (rowLoad 100 (.pointer (some ⟨g, 0, none⟩))).run Try.prog w = .ok (.value (.agg (w.rowAt g))) w := run_rowLoad w (n := 63) rowType_w h
@[go_sem] theorem load_st (h : (w.rowAt g).size = 8) : (rowLoad 82 (.pointer (some ⟨g, 0, none⟩))).run Try.prog w = .ok (.value (.agg (w.rowAt g))) w := run_rowLoad w (n := 7) rowType_s h
@[go_sem] theorem store_ws (l : List (BitVec 32)) (hl : l.length = 64) (h : (w.rowAt g).size = 64) (hf : w.rowFree g = true) : (rowStore 100 (.pointer (some ⟨g, 0, none⟩)) (.agg (uv l))).run Try.prog w = .ok .skip (w.setRow g (uv l)) := run_rowStore w (n := 64) rowType_w hf h (by rw [uv_size]; exact hl) (uv_all l)
@[go_sem] theorem store_st (l : List (BitVec 32)) (hl : l.length = 8) (h : (w.rowAt g).size = 8) (hf : w.rowFree g = true) : (rowStore 82 (.pointer (some ⟨g, 0, none⟩)) (.agg (uv l))).run Try.prog w = .ok .skip (w.setRow g (uv l)) := run_rowStore w (n := 8) rowType_s hf h (by rw [uv_size]; exact hl) (uv_all l)
@[go_sem] theorem alloc_ws : (rowAlloc 100).run Try.prog w = .ok (.value (.pointer (some ⟨w.heap.size, 0, none⟩))) (w.alloc (.cells (uv w0) 100)) := run_rowAlloc w zero_w
@[go_sem] theorem alloc_st : (rowAlloc 82).run Try.prog w = .ok (.value (.pointer (some ⟨w.heap.size, 0, none⟩))) (w.alloc (.cells (uv s0) 82)) := run_rowAlloc w zero_s
end
theorem ws_result {fn : Func} {p : Tmp} {g : Nat} {w : World} {l : List (BitVec 32)} (hr : fn.results = #[.cell p 100]) (tmps : Array Value) (hp : tmps.getD p undef = .pointer (some ⟨g, 0, none⟩)) (h : w.rowAt g = uv l) (hl : l.length = 64) :
    (results fn tmps).run Try.prog w = .ok (.agg (uv l)) w := by
  have := run_result_row w (n := 63) hr tmps hp rowType_w (by rw [h, uv_size, hl])
  rwa [h] at this
/-! ### What is computed -/
/-- The numbers of the rounds. -/
def ks : List (BitVec 32) := [1116352408, 1899447441, 3049323471, 3921009573, 961987163, 1508970993, 2453635748, 2870763221, 3624381080, 310598401, 607225278, 1426881987, 1925078388, 2162078206, 2614888103, 3248222580, 3835390401, 4022224774, 264347078, 604807628, 770255983, 1249150122, 1555081692, 1996064986, 2554220882, 2821834349, 2952996808, 3210313671, 3336571891, 3584528711, 113926993, 338241895, 666307205, 773529912, 1294757372, 1396182291, 1695183700, 1986661051, 2177026350, 2456956037, 2730485921, 2820302411, 3259730800, 3345764771, 3516065817, 3600352804, 4094571909, 275423344, 430227734, 506948616, 659060556, 883997877, 958139571, 1322822218, 1537002063, 1747873779, 1955562222, 2024104815, 2227730452, 2361852424, 2428436474, 2756734187, 3204031479, 3329325298].map (BitVec.ofNat 32)
@[go_sem] theorem ks_len : ks.length = 64 := by decide
def be32 (a b c d : Nat) : BitVec 32 := BitVec.ofNat 32 (a * 16777216 + b * 65536 + c * 256 + d)
def schedN (w : List (BitVec 32)) (i : Nat) : BitVec 32 :=
  wordAt w (i - 16) + wordAt w (i - 7) + (rr 7 (wordAt w (i - 15)) ^^^ rr 18 (wordAt w (i - 15)) ^^^ wordAt w (i - 15) >>> 3) + (rr 17 (wordAt w (i - 2)) ^^^ rr 19 (wordAt w (i - 2)) ^^^ wordAt w (i - 2) >>> 10)
/-- The first 'i' words of 64 bytes. -/
def sched (b : List Nat) : Nat → List (BitVec 32)
  | 0 => []
  | i + 1 => sched b i ++ [if i < 16 then be32 (byteAt b (4 * i)) (byteAt b (4 * i + 1)) (byteAt b (4 * i + 2)) (byteAt b (4 * i + 3)) else schedN (sched b i) i]
theorem sched_len (b : List Nat) : ∀ i, (sched b i).length = i
  | 0 => rfl
  | i + 1 => by unfold sched; rw [List.length_append, sched_len b i]; rfl
def tx (v : List (BitVec 32)) (k w : BitVec 32) : BitVec 32 :=
  wordAt v 7 + (rr 6 (wordAt v 4) ^^^ rr 11 (wordAt v 4) ^^^ rr 25 (wordAt v 4)) + (wordAt v 4 &&& wordAt v 5 ^^^ ~~~ wordAt v 4 &&& wordAt v 6) + k + w
def ty (v : List (BitVec 32)) : BitVec 32 :=
  (rr 2 (wordAt v 0) ^^^ rr 13 (wordAt v 0) ^^^ rr 22 (wordAt v 0)) + (wordAt v 0 &&& wordAt v 1 ^^^ wordAt v 0 &&& wordAt v 2 ^^^ wordAt v 1 &&& wordAt v 2)
/-- One round. -/
def round1 (v : List (BitVec 32)) (k w : BitVec 32) : List (BitVec 32) :=
  [tx v k w + ty v, wordAt v 0, wordAt v 1, wordAt v 2, wordAt v 3 + tx v k w, wordAt v 4, wordAt v 5, wordAt v 6]
/-- The eight words behind 'i' rounds. -/
def rnds (s : List (BitVec 32)) (w : List (BitVec 32)) : Nat → List (BitVec 32)
  | 0 => s
  | i + 1 => round1 (rnds s w i) (wordAt ks i) (wordAt w i)
theorem rnds_len (s w : List (BitVec 32)) (h : s.length = 8) : ∀ i, (rnds s w i).length = 8
  | 0 => h
  | i + 1 => rfl
/-- What comes of eight words and 64 bytes. -/
def compress (s : List (BitVec 32)) (b : List Nat) : List (BitVec 32) := (List.range 8).map fun i => wordAt s i + wordAt (rnds s (sched b 64) 64) i
theorem compress_len (s : List (BitVec 32)) (b : List Nat) : (compress s b).length = 8 := by simp [compress]

def ksParts : Array (Nat × Operand) := #[(0, .const (.int .u32 1116352408)), (1, .const (.int .u32 1899447441)), (2, .const (.int .u32 3049323471)), (3, .const (.int .u32 3921009573)), (4, .const (.int .u32 961987163)), (5, .const (.int .u32 1508970993)), (6, .const (.int .u32 2453635748)), (7, .const (.int .u32 2870763221)), (8, .const (.int .u32 3624381080)), (9, .const (.int .u32 310598401)), (10, .const (.int .u32 607225278)), (11, .const (.int .u32 1426881987)), (12, .const (.int .u32 1925078388)), (13, .const (.int .u32 2162078206)), (14, .const (.int .u32 2614888103)), (15, .const (.int .u32 3248222580)), (16, .const (.int .u32 3835390401)), (17, .const (.int .u32 4022224774)), (18, .const (.int .u32 264347078)), (19, .const (.int .u32 604807628)), (20, .const (.int .u32 770255983)), (21, .const (.int .u32 1249150122)), (22, .const (.int .u32 1555081692)), (23, .const (.int .u32 1996064986)), (24, .const (.int .u32 2554220882)), (25, .const (.int .u32 2821834349)), (26, .const (.int .u32 2952996808)), (27, .const (.int .u32 3210313671)), (28, .const (.int .u32 3336571891)), (29, .const (.int .u32 3584528711)), (30, .const (.int .u32 113926993)), (31, .const (.int .u32 338241895)), (32, .const (.int .u32 666307205)), (33, .const (.int .u32 773529912)), (34, .const (.int .u32 1294757372)), (35, .const (.int .u32 1396182291)), (36, .const (.int .u32 1695183700)), (37, .const (.int .u32 1986661051)), (38, .const (.int .u32 2177026350)), (39, .const (.int .u32 2456956037)), (40, .const (.int .u32 2730485921)), (41, .const (.int .u32 2820302411)), (42, .const (.int .u32 3259730800)), (43, .const (.int .u32 3345764771)), (44, .const (.int .u32 3516065817)), (45, .const (.int .u32 3600352804)), (46, .const (.int .u32 4094571909)), (47, .const (.int .u32 275423344)), (48, .const (.int .u32 430227734)), (49, .const (.int .u32 506948616)), (50, .const (.int .u32 659060556)), (51, .const (.int .u32 883997877)), (52, .const (.int .u32 958139571)), (53, .const (.int .u32 1322822218)), (54, .const (.int .u32 1537002063)), (55, .const (.int .u32 1747873779)), (56, .const (.int .u32 1955562222)), (57, .const (.int .u32 2024104815)), (58, .const (.int .u32 2227730452)), (59, .const (.int .u32 2361852424)), (60, .const (.int .u32 2428436474)), (61, .const (.int .u32 2756734187)), (62, .const (.int .u32 3204031479)), (63, .const (.int .u32 3329325298))]
def ksBuild : Sem Next := do let x ← Instr.build 100 (ksParts.map fun (i, x) => (i, (Act.eval ⟨#[], []⟩ x))); pure (.value x)
@[go_sem] theorem run_ksBuild (w : World) : ksBuild.run Try.prog w = .ok (.value (.agg (uv ks))) w := by kernel_rfl
set_option maxRecDepth 100000 in
@[go_sem ↓] theorem ex_ksBuild (b : Act) (d : Option Tmp) (t : TypeId) (p : String) (a : Array Edge) (g : Option (Nat × Bool)) : execOp b.eval ⟨d, .build 100 #[(0, .const (.int .u32 1116352408)), (1, .const (.int .u32 1899447441)), (2, .const (.int .u32 3049323471)), (3, .const (.int .u32 3921009573)), (4, .const (.int .u32 961987163)), (5, .const (.int .u32 1508970993)), (6, .const (.int .u32 2453635748)), (7, .const (.int .u32 2870763221)), (8, .const (.int .u32 3624381080)), (9, .const (.int .u32 310598401)), (10, .const (.int .u32 607225278)), (11, .const (.int .u32 1426881987)), (12, .const (.int .u32 1925078388)), (13, .const (.int .u32 2162078206)), (14, .const (.int .u32 2614888103)), (15, .const (.int .u32 3248222580)), (16, .const (.int .u32 3835390401)), (17, .const (.int .u32 4022224774)), (18, .const (.int .u32 264347078)), (19, .const (.int .u32 604807628)), (20, .const (.int .u32 770255983)), (21, .const (.int .u32 1249150122)), (22, .const (.int .u32 1555081692)), (23, .const (.int .u32 1996064986)), (24, .const (.int .u32 2554220882)), (25, .const (.int .u32 2821834349)), (26, .const (.int .u32 2952996808)), (27, .const (.int .u32 3210313671)), (28, .const (.int .u32 3336571891)), (29, .const (.int .u32 3584528711)), (30, .const (.int .u32 113926993)), (31, .const (.int .u32 338241895)), (32, .const (.int .u32 666307205)), (33, .const (.int .u32 773529912)), (34, .const (.int .u32 1294757372)), (35, .const (.int .u32 1396182291)), (36, .const (.int .u32 1695183700)), (37, .const (.int .u32 1986661051)), (38, .const (.int .u32 2177026350)), (39, .const (.int .u32 2456956037)), (40, .const (.int .u32 2730485921)), (41, .const (.int .u32 2820302411)), (42, .const (.int .u32 3259730800)), (43, .const (.int .u32 3345764771)), (44, .const (.int .u32 3516065817)), (45, .const (.int .u32 3600352804)), (46, .const (.int .u32 4094571909)), (47, .const (.int .u32 275423344)), (48, .const (.int .u32 430227734)), (49, .const (.int .u32 506948616)), (50, .const (.int .u32 659060556)), (51, .const (.int .u32 883997877)), (52, .const (.int .u32 958139571)), (53, .const (.int .u32 1322822218)), (54, .const (.int .u32 1537002063)), (55, .const (.int .u32 1747873779)), (56, .const (.int .u32 1955562222)), (57, .const (.int .u32 2024104815)), (58, .const (.int .u32 2227730452)), (59, .const (.int .u32 2361852424)), (60, .const (.int .u32 2428436474)), (61, .const (.int .u32 2756734187)), (62, .const (.int .u32 3204031479)), (63, .const (.int .u32 3329325298))], t, p, a, g⟩ = ksBuild := by kernel_rfl
set_option maxRecDepth 100000 in
set_option maxHeartbeats 1600000 in
theorem numbers_w (w : World) : Calls Try.prog 69 #[] w fun e w' => e = .returned (.agg (uv ks)) ∧ Grew w w' := by
  go_enter Try.func69, Try.ntmps69
  go_wp2
  exact bodyPost_ret (v := .agg (uv ks)) (ws_result Try.results69 _ rfl (by simp [go_sem]) ks_len) rfl ⟨rfl, (by repeat (first | with_reducible exact Grew.refl _ | with_reducible apply Grew.alloc | with_reducible apply Grew.grow | with_reducible apply Grew.drew | with_reducible apply Grew.drewN))⟩
end Go.Proofs.Ytnhcamklammcdaa
/- What lay ahead of the call lies ahead of all that comes. No program in sight. -/
namespace Go
set_option linter.unusedVariables false
set_option linter.unusedSimpArgs false
@[go_sem] theorem lt_world_1 (w : World) (s a0 : Nat) (h : s < w.heap.size) : s < w.heap.size + a0 := by omega
@[go_sem] theorem lt_world_2 (w : World) (s a0 a1 : Nat) (h : s < w.heap.size) : s < w.heap.size + a0 + a1 := by omega
@[go_sem] theorem lt_world_3 (w : World) (s a0 a1 a2 : Nat) (h : s < w.heap.size) : s < w.heap.size + a0 + a1 + a2 := by omega
@[go_sem] theorem lt_world_4 (w : World) (s a0 a1 a2 a3 : Nat) (h : s < w.heap.size) : s < w.heap.size + a0 + a1 + a2 + a3 := by omega
@[go_sem] theorem lt_world_5 (w : World) (s a0 a1 a2 a3 a4 : Nat) (h : s < w.heap.size) : s < w.heap.size + a0 + a1 + a2 + a3 + a4 := by omega
@[go_sem] theorem lt_world_6 (w : World) (s a0 a1 a2 a3 a4 a5 : Nat) (h : s < w.heap.size) : s < w.heap.size + a0 + a1 + a2 + a3 + a4 + a5 := by omega
@[go_sem] theorem lt_world_7 (w : World) (s a0 a1 a2 a3 a4 a5 a6 : Nat) (h : s < w.heap.size) : s < w.heap.size + a0 + a1 + a2 + a3 + a4 + a5 + a6 := by omega
@[go_sem] theorem lt_world_8 (w : World) (s a0 a1 a2 a3 a4 a5 a6 a7 : Nat) (h : s < w.heap.size) : s < w.heap.size + a0 + a1 + a2 + a3 + a4 + a5 + a6 + a7 := by omega
@[go_sem] theorem lt_world_9 (w : World) (s a0 a1 a2 a3 a4 a5 a6 a7 a8 : Nat) (h : s < w.heap.size) : s < w.heap.size + a0 + a1 + a2 + a3 + a4 + a5 + a6 + a7 + a8 := by omega
@[go_sem] theorem lt_world_10 (w : World) (s a0 a1 a2 a3 a4 a5 a6 a7 a8 a9 : Nat) (h : s < w.heap.size) : s < w.heap.size + a0 + a1 + a2 + a3 + a4 + a5 + a6 + a7 + a8 + a9 := by omega
@[go_sem] theorem lt_world_11 (w : World) (s a0 a1 a2 a3 a4 a5 a6 a7 a8 a9 a10 : Nat) (h : s < w.heap.size) : s < w.heap.size + a0 + a1 + a2 + a3 + a4 + a5 + a6 + a7 + a8 + a9 + a10 := by omega
@[go_sem] theorem lt_world_12 (w : World) (s a0 a1 a2 a3 a4 a5 a6 a7 a8 a9 a10 a11 : Nat) (h : s < w.heap.size) : s < w.heap.size + a0 + a1 + a2 + a3 + a4 + a5 + a6 + a7 + a8 + a9 + a10 + a11 := by omega
@[go_sem] theorem lt_world_13 (w : World) (s a0 a1 a2 a3 a4 a5 a6 a7 a8 a9 a10 a11 a12 : Nat) (h : s < w.heap.size) : s < w.heap.size + a0 + a1 + a2 + a3 + a4 + a5 + a6 + a7 + a8 + a9 + a10 + a11 + a12 := by omega
@[go_sem] theorem lt_world_14 (w : World) (s a0 a1 a2 a3 a4 a5 a6 a7 a8 a9 a10 a11 a12 a13 : Nat) (h : s < w.heap.size) : s < w.heap.size + a0 + a1 + a2 + a3 + a4 + a5 + a6 + a7 + a8 + a9 + a10 + a11 + a12 + a13 := by omega
@[go_sem] theorem lt_world_15 (w : World) (s a0 a1 a2 a3 a4 a5 a6 a7 a8 a9 a10 a11 a12 a13 a14 : Nat) (h : s < w.heap.size) : s < w.heap.size + a0 + a1 + a2 + a3 + a4 + a5 + a6 + a7 + a8 + a9 + a10 + a11 + a12 + a13 + a14 := by omega
@[go_sem] theorem lt_world_16 (w : World) (s a0 a1 a2 a3 a4 a5 a6 a7 a8 a9 a10 a11 a12 a13 a14 a15 : Nat) (h : s < w.heap.size) : s < w.heap.size + a0 + a1 + a2 + a3 + a4 + a5 + a6 + a7 + a8 + a9 + a10 + a11 + a12 + a13 + a14 + a15 := by omega
@[go_sem] theorem lt_world_17 (w : World) (s a0 a1 a2 a3 a4 a5 a6 a7 a8 a9 a10 a11 a12 a13 a14 a15 a16 : Nat) (h : s < w.heap.size) : s < w.heap.size + a0 + a1 + a2 + a3 + a4 + a5 + a6 + a7 + a8 + a9 + a10 + a11 + a12 + a13 + a14 + a15 + a16 := by omega
@[go_sem] theorem lt_world_18 (w : World) (s a0 a1 a2 a3 a4 a5 a6 a7 a8 a9 a10 a11 a12 a13 a14 a15 a16 a17 : Nat) (h : s < w.heap.size) : s < w.heap.size + a0 + a1 + a2 + a3 + a4 + a5 + a6 + a7 + a8 + a9 + a10 + a11 + a12 + a13 + a14 + a15 + a16 + a17 := by omega
@[go_sem] theorem lt_world_19 (w : World) (s a0 a1 a2 a3 a4 a5 a6 a7 a8 a9 a10 a11 a12 a13 a14 a15 a16 a17 a18 : Nat) (h : s < w.heap.size) : s < w.heap.size + a0 + a1 + a2 + a3 + a4 + a5 + a6 + a7 + a8 + a9 + a10 + a11 + a12 + a13 + a14 + a15 + a16 + a17 + a18 := by omega
@[go_sem] theorem lt_world_20 (w : World) (s a0 a1 a2 a3 a4 a5 a6 a7 a8 a9 a10 a11 a12 a13 a14 a15 a16 a17 a18 a19 : Nat) (h : s < w.heap.size) : s < w.heap.size + a0 + a1 + a2 + a3 + a4 + a5 + a6 + a7 + a8 + a9 + a10 + a11 + a12 + a13 + a14 + a15 + a16 + a17 + a18 + a19 := by omega
@[go_sem] theorem lt_world_21 (w : World) (s a0 a1 a2 a3 a4 a5 a6 a7 a8 a9 a10 a11 a12 a13 a14 a15 a16 a17 a18 a19 a20 : Nat) (h : s < w.heap.size) : s < w.heap.size + a0 + a1 + a2 + a3 + a4 + a5 + a6 + a7 + a8 + a9 + a10 + a11 + a12 + a13 + a14 + a15 + a16 + a17 + a18 + a19 + a20 := by omega
@[go_sem] theorem lt_world_22 (w : World) (s a0 a1 a2 a3 a4 a5 a6 a7 a8 a9 a10 a11 a12 a13 a14 a15 a16 a17 a18 a19 a20 a21 : Nat) (h : s < w.heap.size) : s < w.heap.size + a0 + a1 + a2 + a3 + a4 + a5 + a6 + a7 + a8 + a9 + a10 + a11 + a12 + a13 + a14 + a15 + a16 + a17 + a18 + a19 + a20 + a21 := by omega
@[go_sem] theorem lt_world_23 (w : World) (s a0 a1 a2 a3 a4 a5 a6 a7 a8 a9 a10 a11 a12 a13 a14 a15 a16 a17 a18 a19 a20 a21 a22 : Nat) (h : s < w.heap.size) : s < w.heap.size + a0 + a1 + a2 + a3 + a4 + a5 + a6 + a7 + a8 + a9 + a10 + a11 + a12 + a13 + a14 + a15 + a16 + a17 + a18 + a19 + a20 + a21 + a22 := by omega
@[go_sem] theorem lt_world_24 (w : World) (s a0 a1 a2 a3 a4 a5 a6 a7 a8 a9 a10 a11 a12 a13 a14 a15 a16 a17 a18 a19 a20 a21 a22 a23 : Nat) (h : s < w.heap.size) : s < w.heap.size + a0 + a1 + a2 + a3 + a4 + a5 + a6 + a7 + a8 + a9 + a10 + a11 + a12 + a13 + a14 + a15 + a16 + a17 + a18 + a19 + a20 + a21 + a22 + a23 := by omega
@[go_sem] theorem lt_world_25 (w : World) (s a0 a1 a2 a3 a4 a5 a6 a7 a8 a9 a10 a11 a12 a13 a14 a15 a16 a17 a18 a19 a20 a21 a22 a23 a24 : Nat) (h : s < w.heap.size) : s < w.heap.size + a0 + a1 + a2 + a3 + a4 + a5 + a6 + a7 + a8 + a9 + a10 + a11 + a12 + a13 + a14 + a15 + a16 + a17 + a18 + a19 + a20 + a21 + a22 + a23 + a24 := by omega
@[go_sem] theorem lt_world_26 (w : World) (s a0 a1 a2 a3 a4 a5 a6 a7 a8 a9 a10 a11 a12 a13 a14 a15 a16 a17 a18 a19 a20 a21 a22 a23 a24 a25 : Nat) (h : s < w.heap.size) : s < w.heap.size + a0 + a1 + a2 + a3 + a4 + a5 + a6 + a7 + a8 + a9 + a10 + a11 + a12 + a13 + a14 + a15 + a16 + a17 + a18 + a19 + a20 + a21 + a22 + a23 + a24 + a25 := by omega
@[go_sem] theorem lt_world_27 (w : World) (s a0 a1 a2 a3 a4 a5 a6 a7 a8 a9 a10 a11 a12 a13 a14 a15 a16 a17 a18 a19 a20 a21 a22 a23 a24 a25 a26 : Nat) (h : s < w.heap.size) : s < w.heap.size + a0 + a1 + a2 + a3 + a4 + a5 + a6 + a7 + a8 + a9 + a10 + a11 + a12 + a13 + a14 + a15 + a16 + a17 + a18 + a19 + a20 + a21 + a22 + a23 + a24 + a25 + a26 := by omega
@[go_sem] theorem lt_world_28 (w : World) (s a0 a1 a2 a3 a4 a5 a6 a7 a8 a9 a10 a11 a12 a13 a14 a15 a16 a17 a18 a19 a20 a21 a22 a23 a24 a25 a26 a27 : Nat) (h : s < w.heap.size) : s < w.heap.size + a0 + a1 + a2 + a3 + a4 + a5 + a6 + a7 + a8 + a9 + a10 + a11 + a12 + a13 + a14 + a15 + a16 + a17 + a18 + a19 + a20 + a21 + a22 + a23 + a24 + a25 + a26 + a27 := by omega
@[go_sem] theorem lt_world_29 (w : World) (s a0 a1 a2 a3 a4 a5 a6 a7 a8 a9 a10 a11 a12 a13 a14 a15 a16 a17 a18 a19 a20 a21 a22 a23 a24 a25 a26 a27 a28 : Nat) (h : s < w.heap.size) : s < w.heap.size + a0 + a1 + a2 + a3 + a4 + a5 + a6 + a7 + a8 + a9 + a10 + a11 + a12 + a13 + a14 + a15 + a16 + a17 + a18 + a19 + a20 + a21 + a22 + a23 + a24 + a25 + a26 + a27 + a28 := by omega
@[go_sem] theorem lt_world_30 (w : World) (s a0 a1 a2 a3 a4 a5 a6 a7 a8 a9 a10 a11 a12 a13 a14 a15 a16 a17 a18 a19 a20 a21 a22 a23 a24 a25 a26 a27 a28 a29 : Nat) (h : s < w.heap.size) : s < w.heap.size + a0 + a1 + a2 + a3 + a4 + a5 + a6 + a7 + a8 + a9 + a10 + a11 + a12 + a13 + a14 + a15 + a16 + a17 + a18 + a19 + a20 + a21 + a22 + a23 + a24 + a25 + a26 + a27 + a28 + a29 := by omega
@[go_sem] theorem lt_world_31 (w : World) (s a0 a1 a2 a3 a4 a5 a6 a7 a8 a9 a10 a11 a12 a13 a14 a15 a16 a17 a18 a19 a20 a21 a22 a23 a24 a25 a26 a27 a28 a29 a30 : Nat) (h : s < w.heap.size) : s < w.heap.size + a0 + a1 + a2 + a3 + a4 + a5 + a6 + a7 + a8 + a9 + a10 + a11 + a12 + a13 + a14 + a15 + a16 + a17 + a18 + a19 + a20 + a21 + a22 + a23 + a24 + a25 + a26 + a27 + a28 + a29 + a30 := by omega
@[go_sem] theorem lt_world_32 (w : World) (s a0 a1 a2 a3 a4 a5 a6 a7 a8 a9 a10 a11 a12 a13 a14 a15 a16 a17 a18 a19 a20 a21 a22 a23 a24 a25 a26 a27 a28 a29 a30 a31 : Nat) (h : s < w.heap.size) : s < w.heap.size + a0 + a1 + a2 + a3 + a4 + a5 + a6 + a7 + a8 + a9 + a10 + a11 + a12 + a13 + a14 + a15 + a16 + a17 + a18 + a19 + a20 + a21 + a22 + a23 + a24 + a25 + a26 + a27 + a28 + a29 + a30 + a31 := by omega
theorem places_of (w : World) (s : Nat) (h : s < w.heap.size) : (∀ a0 : Nat, s < w.heap.size + a0) ∧ (∀ a0 a1 : Nat, s < w.heap.size + a0 + a1) ∧ (∀ a0 a1 a2 : Nat, s < w.heap.size + a0 + a1 + a2) ∧ (∀ a0 a1 a2 a3 : Nat, s < w.heap.size + a0 + a1 + a2 + a3) ∧ (∀ a0 a1 a2 a3 a4 : Nat, s < w.heap.size + a0 + a1 + a2 + a3 + a4) ∧ (∀ a0 a1 a2 a3 a4 a5 : Nat, s < w.heap.size + a0 + a1 + a2 + a3 + a4 + a5) ∧ (∀ a0 a1 a2 a3 a4 a5 a6 : Nat, s < w.heap.size + a0 + a1 + a2 + a3 + a4 + a5 + a6) ∧ (∀ a0 a1 a2 a3 a4 a5 a6 a7 : Nat, s < w.heap.size + a0 + a1 + a2 + a3 + a4 + a5 + a6 + a7) ∧ (∀ a0 a1 a2 a3 a4 a5 a6 a7 a8 : Nat, s < w.heap.size + a0 + a1 + a2 + a3 + a4 + a5 + a6 + a7 + a8) ∧ (∀ a0 a1 a2 a3 a4 a5 a6 a7 a8 a9 : Nat, s < w.heap.size + a0 + a1 + a2 + a3 + a4 + a5 + a6 + a7 + a8 + a9) ∧ (∀ a0 a1 a2 a3 a4 a5 a6 a7 a8 a9 a10 : Nat, s < w.heap.size + a0 + a1 + a2 + a3 + a4 + a5 + a6 + a7 + a8 + a9 + a10) ∧ (∀ a0 a1 a2 a3 a4 a5 a6 a7 a8 a9 a10 a11 : Nat, s < w.heap.size + a0 + a1 + a2 + a3 + a4 + a5 + a6 + a7 + a8 + a9 + a10 + a11) ∧ (∀ a0 a1 a2 a3 a4 a5 a6 a7 a8 a9 a10 a11 a12 : Nat, s < w.heap.size + a0 + a1 + a2 + a3 + a4 + a5 + a6 + a7 + a8 + a9 + a10 + a11 + a12) ∧ (∀ a0 a1 a2 a3 a4 a5 a6 a7 a8 a9 a10 a11 a12 a13 : Nat, s < w.heap.size + a0 + a1 + a2 + a3 + a4 + a5 + a6 + a7 + a8 + a9 + a10 + a11 + a12 + a13) :=
  ⟨fun _ => by omega, fun _ _ => by omega, fun _ _ _ => by omega, fun _ _ _ _ => by omega, fun _ _ _ _ _ => by omega, fun _ _ _ _ _ _ => by omega, fun _ _ _ _ _ _ _ => by omega, fun _ _ _ _ _ _ _ _ => by omega, fun _ _ _ _ _ _ _ _ _ => by omega, fun _ _ _ _ _ _ _ _ _ _ => by omega, fun _ _ _ _ _ _ _ _ _ _ _ => by omega, fun _ _ _ _ _ _ _ _ _ _ _ _ => by omega, fun _ _ _ _ _ _ _ _ _ _ _ _ _ => by omega, fun _ _ _ _ _ _ _ _ _ _ _ _ _ _ => by omega⟩
end Go
/- For sha's add: what its loops compute. -/
namespace Go
set_option linter.unusedVariables false
set_option linter.unusedSimpArgs false
section
variable (w : World) (g : Nat) (cs : Array Value)
theorem heap_setRow_free (h : w.rowFree g = true) : ∃ t, (w.setRow g cs).heap[g]? = some (.cells cs t (0, 0)) := by
  obtain ⟨t, ht⟩ := row_of_free w h
  exact ⟨t, setRow_heap w g _ cs t _ ht⟩
@[go_sem] theorem cell_setRow_free (h : w.rowFree g = true) (i : Nat) : (w.setRow g cs).cell? ⟨g, i, none⟩ = cs[i]? := by
  obtain ⟨t, ht⟩ := heap_setRow_free w g cs h
  simp [World.cell?, ht]
@[go_sem] theorem frozen_setRow_free (h : w.rowFree g = true) (i : Nat) : (w.setRow g cs).frozen? ⟨g, i, none⟩ = false := by
  obtain ⟨t, ht⟩ := heap_setRow_free w g cs h
  simp [World.frozen?, ht]
@[go_sem] theorem setCell_setRow_free (h : w.rowFree g = true) (i : Nat) (v : Value) : (w.setRow g cs).setCell ⟨g, i, none⟩ v = w.setRow g (cs.setIfInBounds i v) := by
  obtain ⟨t, ht⟩ := heap_setRow_free w g cs h
  rw [setCell_eq_setRow _ g i cs t _ v ht, setRow_setRow]
@[go_sem] theorem rowAt_setRow_free (h : w.rowFree g = true) : (w.setRow g cs).rowAt g = cs := by
  obtain ⟨t, ht⟩ := heap_setRow_free w g cs h
  simp [World.rowAt, ht]
@[go_sem] theorem rowFree_setRow_free (h : w.rowFree g = true) : (w.setRow g cs).rowFree g = true := by
  obtain ⟨t, ht⟩ := heap_setRow_free w g cs h
  simp [World.rowFree, ht]
theorem setRow_same' (h : w.rowFree g = true) : w.setRow g (w.rowAt g) = w := by
  obtain ⟨t, ht⟩ := row_of_free w h
  have hlt : g < w.heap.size := (Array.getElem?_eq_some_iff.1 ht).1
  have hv : w.heap[g] = .cells (w.rowAt g) t (0, 0) := (Array.getElem?_eq_some_iff.1 ht).2
  unfold World.setRow
  cases w with
  | mk heap tape drawn os output =>
    congr 1
    apply Array.ext
    · simp
    · intro k h1 h2
      simp only [Array.getElem_modify]
      split
      · rename_i hk; subst hk; simp only at hv; rw [hv]
      · rfl
end
end Go
namespace Go.Proofs.Ytnhcamklammcdaa
open Go.RowKit

@[go_sem] theorem u_div8 (x : BitVec 32) : u x / (8 : Int) = u (x >>> 3) := u_div x 3
@[go_sem] theorem u_div1024 (x : BitVec 32) : u x / (1024 : Int) = u (x >>> 10) := u_div x 10
def rotI (n : Int) : Bool := decide (n = 2 ∨ n = 6 ∨ n = 7 ∨ n = 11 ∨ n = 13 ∨ n = 17 ∨ n = 18 ∨ n = 19 ∨ n = 22 ∨ n = 25)
theorem right_i (x : BitVec 32) (n : Int) (hn : rotI n = true) (w : World) :
    Calls Try.prog 68 #[.int .u32 (u x), .int .i64 n] w fun e w' => e = .returned (.int .u32 (u (rr n.toNat x))) ∧ Grew w w' := by
  unfold rotI at hn
  have hn := of_decide_eq_true hn
  obtain ⟨m, rfl⟩ := Int.eq_ofNat_of_zero_le (show 0 ≤ n by omega)
  exact right_w x m (by unfold rotOk; omega) w

/-- Words, filled up with zeros to 64. -/
def pad64 (l : List (BitVec 32)) : List (BitVec 32) := l ++ List.replicate (64 - l.length) 0
theorem pad64_len (l : List (BitVec 32)) (h : l.length ≤ 64) : (pad64 l).length = 64 := by simp [pad64]; omega
theorem pad64_nil : pad64 [] = w0 := rfl
theorem pad64_set (l : List (BitVec 32)) (x : BitVec 32) (h : l.length < 64) : (pad64 l).set l.length x = pad64 (l ++ [x]) := by
  unfold pad64
  rw [List.set_append_right _ _ (Nat.le_refl _), Nat.sub_self]
  obtain ⟨m, hm⟩ : ∃ m, 64 - l.length = m + 1 := ⟨63 - l.length, by omega⟩
  rw [hm, List.replicate_succ, List.set_cons_zero, List.length_append, List.length_singleton, show 64 - (l.length + 1) = m by omega, List.append_assoc]
  rfl
theorem pad64_at (l : List (BitVec 32)) (i : Nat) (h : i < l.length) : wordAt (pad64 l) i = wordAt l i := by
  unfold wordAt pad64
  simp [List.getD, List.getElem?_append, h]
theorem pad64_full (l : List (BitVec 32)) (h : l.length = 64) : pad64 l = l := by unfold pad64; rw [h]; simp
theorem sched_low (b : List Nat) (k : Nat) (h : k < 16) : (pad64 (sched b k)).set k (be32 (byteAt b (4 * k)) (byteAt b (4 * k + 1)) (byteAt b (4 * k + 2)) (byteAt b (4 * k + 3))) = pad64 (sched b (k + 1)) := by
  have := pad64_set (sched b k) (be32 (byteAt b (4 * k)) (byteAt b (4 * k + 1)) (byteAt b (4 * k + 2)) (byteAt b (4 * k + 3))) (by rw [sched_len]; omega)
  rw [sched_len] at this
  rw [this]
  conv => rhs; unfold sched
  rw [if_pos h]
theorem sched_high (b : List Nat) (k : Nat) (h : ¬ k < 16) (h2 : k < 64) : (pad64 (sched b k)).set k (wordAt (pad64 (sched b k)) (k - 16) + wordAt (pad64 (sched b k)) (k - 7) + (rr 7 (wordAt (pad64 (sched b k)) (k - 15)) ^^^ rr 18 (wordAt (pad64 (sched b k)) (k - 15)) ^^^ wordAt (pad64 (sched b k)) (k - 15) >>> 3) + (rr 17 (wordAt (pad64 (sched b k)) (k - 2)) ^^^ rr 19 (wordAt (pad64 (sched b k)) (k - 2)) ^^^ wordAt (pad64 (sched b k)) (k - 2) >>> 10)) = pad64 (sched b (k + 1)) := by
  have hl := sched_len b k
  rw [pad64_at _ (k - 16) (by omega), pad64_at _ (k - 7) (by omega), pad64_at _ (k - 15) (by omega), pad64_at _ (k - 2) (by omega)]
  have := pad64_set (sched b k) (schedN (sched b k) k) (by rw [sched_len]; omega)
  rw [sched_len] at this
  conv => rhs; unfold sched
  rw [if_neg h]
  exact this
/-- The eight words, of which 'k' have been added up. -/
def mixk (s v : List (BitVec 32)) (k : Nat) : List (BitVec 32) := (List.range 8).map fun i => if i < k then wordAt s i + wordAt v i else wordAt s i
theorem mixk_len (s v : List (BitVec 32)) (k : Nat) : (mixk s v k).length = 8 := by simp [mixk]
theorem mixk_0 (s v : List (BitVec 32)) (h : s.length = 8) : mixk s v 0 = s := by
  apply List.ext_getElem
  · simp [mixk, h]
  · intro i h1 h2
    simp [mixk, wordAt_eq s i h2]
theorem mixk_at (s v : List (BitVec 32)) (k : Nat) (h : k < 8) : wordAt (mixk s v k) k = wordAt s k := by
  rw [wordAt_eq _ k (by rw [mixk_len]; exact h)]
  simp [mixk]
theorem mixk_set (s v : List (BitVec 32)) (k : Nat) (h : k < 8) : (mixk s v k).set k (wordAt (mixk s v k) k + wordAt v k) = mixk s v (k + 1) := by
  rw [mixk_at s v k h]
  apply List.ext_getElem
  · simp [mixk]
  · intro i h1 h2
    simp only [List.getElem_set, mixk, List.getElem_map, List.getElem_range]
    by_cases hi : k = i
    · subst hi; rw [if_pos rfl, if_pos (by omega)]
    · rw [if_neg hi]
      by_cases h3 : i < k
      · rw [if_pos h3, if_pos (by omega)]
      · rw [if_neg h3, if_neg (by omega)]
theorem mixk_8 (s : List (BitVec 32)) (l : List Nat) : mixk s (rnds s (sched l 64) 64) 8 = compress s l := by
  unfold mixk compress
  apply List.map_congr_left
  intro i hi
  rw [if_pos (by simpa using hi)]
def or2 (a b : Nat) : Nat := a * 16777216 + b * 65536
def or3 (a b c : Nat) : Nat := a * 16777216 + b * 65536 + c * 256
theorem or_u32_nat (a b : Nat) (ha : a < 4294967296) (hb : b < 4294967296) : bits .or .u32 (a : Int) (b : Int) = ((a ||| b : Nat) : Int) := by
  have h1 : (BitVec.ofInt 32 (a : Int)).toNat = a := by rw [BitVec.ofInt_natCast, BitVec.toNat_ofNat]; exact Nat.mod_eq_of_lt (by omega)
  have h2 : (BitVec.ofInt 32 (b : Int)).toNat = b := by rw [BitVec.ofInt_natCast, BitVec.toNat_ofNat]; exact Nat.mod_eq_of_lt (by omega)
  show IntKind.u32.wrap ((BitVec.ofInt 32 (a : Int) ||| BitVec.ofInt 32 (b : Int)).toNat : Int) = _
  rw [BitVec.toNat_or, h1, h2]
  have : a ||| b < 2 ^ 32 := Nat.or_lt_two_pow (by omega) (by omega)
  show ((a ||| b : Nat) : Int) % 4294967296 = _
  omega
theorem or_add (a b k : Nat) (hb : b < 2 ^ k) : a * 2 ^ k ||| b = a * 2 ^ k + b := by
  rw [← Nat.shiftLeft_eq, Nat.shiftLeft_add_eq_or_of_lt hb]
theorem be_or2 (a b : Nat) (ha : a < 256) (hb : b < 256) : bits .or .u32 ((a : Int) * 16777216) ((b : Int) * 65536) = ((or2 a b : Nat) : Int) := by
  have := or_u32_nat (a * 16777216) (b * 65536) (by omega) (by omega)
  rw [Int.natCast_mul, Int.natCast_mul] at this
  refine this.trans (congrArg _ ?_)
  exact or_add a (b * 65536) 24 (by omega)
theorem be_or3 (a b c : Nat) (ha : a < 256) (hb : b < 256) (hc : c < 256) : bits .or .u32 ((or2 a b : Nat) : Int) ((c : Int) * 256) = ((or3 a b c : Nat) : Int) := by
  have := or_u32_nat (or2 a b) (c * 256) (by unfold or2; omega) (by omega)
  rw [Int.natCast_mul] at this
  refine this.trans (congrArg _ ?_)
  have e : or2 a b = (a * 256 + b) * 2 ^ 16 := by unfold or2; omega
  rw [e, or_add _ _ 16 (by omega)]
  unfold or3; omega
theorem be_or4 (a b c d : Nat) (ha : a < 256) (hb : b < 256) (hc : c < 256) (hd : d < 256) : bits .or .u32 ((or3 a b c : Nat) : Int) (d : Int) = u (be32 a b c d) := by
  rw [or_u32_nat (or3 a b c) d (by unfold or3; omega) (by omega)]
  have e : or3 a b c = (a * 65536 + b * 256 + c) * 2 ^ 8 := by unfold or3; omega
  rw [e, or_add _ _ 8 (by omega)]
  unfold u be32
  rw [BitVec.toNat_ofNat]
  omega

end Go.Proofs.Ytnhcamklammcdaa
/- Rows of the call's own whose elements are of many cells each. No program in sight. -/
namespace Go
set_option linter.unusedVariables false
set_option linter.unusedSimpArgs false
open Go.RowKit
section
variable {α : Type} {k : Nat} {f : α → List Value}
theorem flat_get (hf : ∀ x, (f x).length = k) : ∀ (ls : List α) (j : Nat) (x : α), ls[j]? = some x → ∀ i, i < k → (ls.flatMap f)[j * k + i]? = (f x)[i]?
  | [], _, _, h, _, _ => by simp at h
  | y :: ls, 0, x, h, i, hi => by
    simp only [List.getElem?_cons_zero, Option.some.injEq] at h
    subst h
    rw [List.flatMap_cons, Nat.zero_mul, Nat.zero_add, List.getElem?_append_left (by rw [hf]; exact hi)]
  | y :: ls, j + 1, x, h, i, hi => by
    rw [List.getElem?_cons_succ] at h
    rw [List.flatMap_cons, List.getElem?_append_right (by rw [hf, Nat.succ_mul]; omega), hf, show (j + 1) * k + i - k = j * k + i by rw [Nat.succ_mul]; omega]
    exact flat_get hf ls j x h i hi
theorem flat_len (hf : ∀ x, (f x).length = k) : ∀ ls : List α, (ls.flatMap f).length = ls.length * k
  | [] => by simp
  | y :: ls => by rw [List.flatMap_cons, List.length_append, hf, flat_len hf ls, List.length_cons, Nat.succ_mul]; omega
/-- The slice shows these. -/
def ShowsE (k : Nat) (f : α → List Value) (w : World) (v : Value) (ls : List α) : Prop :=
  (∃ b o c, v = .slice (some ⟨b, o, none⟩) ls.length c ∧ ls.length ≤ c ∧ b < w.heap.size ∧ ∀ j x, ls[j]? = some x → w.rangeAt b (o + j * k) (f x)) ∨ (∃ p c, v = .slice p 0 c ∧ ls = [])
theorem rangeAt_grew {w w' : World} {b o : Nat} {cs : List Value} (h : w.rangeAt b o cs) (g : Grew w w') : w'.rangeAt b o cs := fun j v hj => g.cell (h j v hj)
theorem ShowsE.grew {w w' : World} {v : Value} {ls : List α} (h : ShowsE k f w v ls) (g : Grew w w') : ShowsE k f w' v ls := by
  rcases h with ⟨b, o, c, rfl, hc, hb, h⟩ | h
  · exact .inl ⟨b, o, c, rfl, hc, Nat.lt_of_lt_of_le hb g.size, fun j x hj => rangeAt_grew (h j x hj) g⟩
  · exact .inr h
def OwnE (k : Nat) (f : α → List Value) (w : World) (base : Nat) (e : TypeId) (v : Value) (ls : List α) : Prop := w.ownsRow base e k v ls.length (ls.flatMap f)
theorem OwnE.nil (w : World) (base : Nat) (e : TypeId) : OwnE k f w base e (.slice none 0 0) [] := World.ownsRow_nil w base e k
theorem OwnE.range (hf : ∀ x, (f x).length = k) {w : World} {base : Nat} {e : TypeId} {g n cap : Nat} {ls : List α} (h : OwnE k f w base e (.slice (some ⟨g, 0, none⟩) n cap) ls) (j : Nat) (x : α) (hj : ls[j]? = some x) : w.rangeAt g (j * k) (f x) := by
  intro i v hi
  have hik : i < k := by have := (List.getElem?_eq_some_iff.1 hi).1; rwa [hf] at this
  have h1 := World.ownsRow.cells h (g := g) rfl (j * k + i) v (by rw [flat_get hf ls j x hj i hik]; exact hi)
  rw [add_off, Nat.zero_add] at h1
  exact h1
theorem OwnE.form {w : World} {base : Nat} {e : TypeId} {v : Value} {ls : List α} (h : OwnE k f w base e v ls) : (v = .slice none 0 0 ∧ ls = []) ∨ ∃ g cap, v = .slice (some ⟨g, 0, none⟩) ls.length cap ∧ base ≤ g ∧ g < w.heap.size ∧ ls.length ≤ cap := by
  rcases h.2 with ⟨rfl, h0⟩ | ⟨g, cap, cur, rfl, hb, hg, hn, hm, hs, ht⟩
  · exact .inl ⟨rfl, List.length_eq_zero_iff.1 h0⟩
  · exact .inr ⟨g, cap, rfl, hb, (Array.getElem?_eq_some_iff.1 hg).1, hn⟩
theorem OwnE.shows (hf : ∀ x, (f x).length = k) {w : World} {base : Nat} {e : TypeId} {v : Value} {ls : List α} (h : OwnE k f w base e v ls) : ShowsE k f w v ls := by
  rcases h.form with ⟨rfl, rfl⟩ | ⟨g, cap, rfl, hb, hg, hc⟩
  · exact .inr ⟨_, _, rfl, rfl⟩
  · exact .inl ⟨g, 0, cap, rfl, hc, hg, fun j x hj => by rw [Nat.zero_add]; exact OwnE.range hf h j x hj⟩
theorem OwnE.grew {w w' : World} {base : Nat} {e : TypeId} {v : Value} {ls : List α} (h : OwnE k f w base e v ls) (g : Grew w w') : OwnE k f w' base e v ls := by
  refine ⟨h.1, ?_⟩
  rcases h.2 with hn | ⟨b, cap, cur, rfl, hb, hg, rest⟩
  · exact .inl hn
  · exact .inr ⟨b, cap, cur, rfl, hb, (g.heap (Array.getElem?_eq_some_iff.1 hg).1).trans hg, rest⟩
theorem OwnE.base {w : World} {base base' : Nat} {e : TypeId} {v : Value} {ls : List α} (h : OwnE k f w base e v ls) (hb : base' ≤ base) : OwnE k f w base' e v ls := by
  refine ⟨h.1, ?_⟩
  rcases h.2 with hn | ⟨b, cap, cur, rfl, hb', rest⟩
  · exact .inl hn
  · exact .inr ⟨b, cap, cur, rfl, Nat.le_trans hb hb', rest⟩
theorem OwnE.block {w : World} {base : Nat} {e : TypeId} {v : Value} {ls : List α} (h : OwnE k f w base e v ls) : ∀ k, v.ownBlock = some k → base ≤ k ∧ k < w.heap.size := World.ownsRow.lt h
theorem OwnE.kept {w w' : World} {base : Nat} {e : TypeId} {v : Value} {ls : List α} {row : Option Nat} (h : OwnE k f w base e v ls) (hg : w.grownBy w' row) (hne : v.ownBlock = none ∨ v.ownBlock ≠ row) : OwnE k f w' base e v ls := World.ownsRow.kept h hg hne
/-- A row that was just built. -/
theorem OwnE.made (hf : ∀ x, (f x).length = k) (w : World) (base : Nat) (e : TypeId) (ls : List α) (hb : base ≤ w.heap.size) (hl : ls.length ≤ maxLen) : OwnE k f (w.alloc (.cells (ls.flatMap f).toArray e)) base e (.slice (some ⟨w.heap.size, 0, none⟩) ls.length ls.length) ls := by
  refine ⟨flat_len hf ls, .inr ⟨w.heap.size, ls.length, _, rfl, hb, heap_alloc_new w _, Nat.le_refl _, hl, by simpa using flat_len hf ls, ?_⟩⟩
  have : (ls.flatMap f).toArray.toList = ls.flatMap f := rfl
  rw [this, ← flat_len hf ls, List.take_length]
theorem showsE_flat (hf : ∀ x, (f x).length = k) {w : World} {b o : Nat} {ls : List α} (h : ∀ j x, ls[j]? = some x → w.rangeAt b (o + j * k) (f x)) : ∀ j u, (ls.flatMap f)[j]? = some u → w.cell? ⟨b, o + j, none⟩ = some u := by
  intro j u hj
  have hjl := (List.getElem?_eq_some_iff.1 hj).1
  rw [flat_len hf] at hjl
  rcases Nat.eq_zero_or_pos k with rfl | hk
  · omega
  have hq : j / k < ls.length := (Nat.div_lt_iff_lt_mul hk).2 hjl
  have hx : ls[j / k]? = some ls[j / k] := List.getElem?_eq_getElem hq
  have hm : j % k < k := Nat.mod_lt _ hk
  have e1 : j / k * k + j % k = j := by rw [Nat.mul_comm]; exact Nat.div_add_mod j k
  have h1 := flat_get hf ls (j / k) _ hx (j % k) hm
  rw [e1, hj] at h1
  have h2 := h (j / k) _ hx (j % k) u h1.symm
  rwa [Nat.add_assoc, e1] at h2
/-- append, of whatever is shown. -/
theorem wpList_appendE {P : Program} {ops : Array Oper} {rest : List Oper} {o : Oper} {a : Act} {Q : Exit → Act → World → Prop} (hf : ∀ x, (f x).length = k) (hk : 0 < k) (hgd : o.guard = none) (s x : Operand) (t : TypeId)
    (ho : o.op = .call { callee := .builtin .append, args := #[s, x], argTypes := #[t, t] }) (e : TypeId) (i : TypeInfo) (z : Value) (bytes : Nat) (ht : P.underlying t = some (.slice e)) (hi : P.info? e = some i) (hz : i.zero = some z)
    (hsize : i.size = k) (hby : i.bytes = bytes) (hzs : z.cells.size = k) (h1 : ∀ x, ∀ u ∈ f x, u.oneCell' = true) (A X : World) (base : Nat) (v y : Value) (hs : a.eval s = v) (hy : a.eval x = y) (xs news : List α) (hg : Grew A X) (hA : A.heap.size ≤ base) (hX : base ≤ X.heap.size) (hown : OwnE k f X base e v xs) (hsh : ShowsE k f X y news)
    (h63 : xs.length + news.length ≤ maxLen) (hbytes : (xs.length + news.length) * bytes ≤ 140737488355328) (hne : 0 < news.length)
    (h : ∀ v' w', OwnE k f w' base e v' (xs ++ news) → Grew A w' → X.grownBy w' v.ownBlock → wpList P ops Q rest (a.put o.dst v') w') : wpList P ops Q (o :: rest) a X := by
  have hblock := hown.block
  rcases hsh with ⟨b, of, c, rfl, hc, hb, hr⟩ | ⟨p, c, rfl, rfl⟩
  case inr => simp at hne
  obtain ⟨v', w', hrun, h2, h3, _⟩ := run_append_own (P := P) X base t o.type e i z k bytes ht hi hz hsize hby hzs hk v xs.length (xs.flatMap f) hown ⟨b, of, none⟩ news.length c (news.flatMap f) (flat_len hf news) (fun j u hj => by rw [add_off]; exact showsE_flat hf hr j u hj)
    (fun u hu => by obtain ⟨x, _, hx⟩ := List.mem_flatMap.1 hu; exact h1 x u hx) h63 hbytes hX
  refine Lib.wpList_append_run X hgd s x t t ho v _ hs hy v' w' hrun (h v' w' ?_ (hg.grown h3 fun j hj => Nat.le_trans hA (hblock j hj).1) h3)
  unfold OwnE
  rw [List.length_append, List.flatMap_append]
  exact h2
theorem showsE_one (hf : ∀ x, (f x).length = k) (X : World) (y : α) (e : TypeId) (c : Nat) (hc : 1 ≤ c) : ShowsE k f (X.alloc (.cells (f y).toArray e)) (.slice (some ⟨X.heap.size, 0, none⟩) 1 c) [y] := by
  refine .inl ⟨_, _, _, rfl, hc, by simp, fun j u hj => ?_⟩
  cases j with
  | zero =>
    simp only [List.getElem?_cons_zero, Option.some.injEq] at hj
    subst hj
    intro i v hi
    unfold World.cell?
    rw [show (X.alloc (.cells (f y).toArray e)).heap[X.heap.size]? = some (.cells (f y).toArray e (0, 0)) from heap_alloc_new X _]
    simpa using hi
  | succ j => simp at hj
theorem showsE_one_g (hf : ∀ x, (f x).length = k) (X : World) (δ : Junk) (y : α) (e : TypeId) (c : Nat) (hc : 1 ≤ c) : ShowsE k f ((X.grow δ).alloc (.cells (f y).toArray e)) (.slice (some ⟨X.heap.size + δ.n, 0, none⟩) 1 c) [y] := by
  have := showsE_one hf (X.grow δ) y e c hc
  rwa [size_grow] at this
end
end Go
/- Parts of variables of many cells; slices built of one. -/
namespace Go.Proofs.Ytnhcamklammcdaa
set_option linter.unusedVariables false
set_option linter.unusedSimpArgs false
open Go.RowKit
set_option maxRecDepth 100000
def putAt (C : Array Value) : Nat → List Value → Array Value
  | _, [] => C
  | o, v :: r => putAt (C.setIfInBounds o v) (o + 1) r
theorem putAt_list : ∀ (vs : List Value) (o : Nat) (C : Array Value), o + vs.length ≤ C.size → (putAt C o vs).toList = C.toList.take o ++ vs ++ C.toList.drop (o + vs.length)
  | [], o, C, _ => by simp [putAt]
  | v :: r, o, C, h => by
    simp only [List.length_cons] at h
    have hlt : o < C.toList.length := by simp; omega
    rw [putAt, putAt_list r (o + 1) _ (by simp; omega), Array.toList_setIfInBounds, List.take_set, List.drop_set_of_lt (by omega), List.take_add_one, List.getElem?_eq_getElem hlt]
    rw [List.set_append_right _ _ (by simp; omega)]
    simp only [List.length_cons, Option.toList_some, List.length_take]
    rw [show o - min o C.toList.length = 0 by omega]
    simp [show o + 1 + r.length = o + (r.length + 1) by omega]
theorem setCells_row : ∀ (vs : List Value) (w : World) (g o : Nat), w.rowFree g = true → w.setCells g o vs = w.setRow g (putAt (w.rowAt g) o vs)
  | [], w, g, o, h => (setRow_same' _ _ h).symm
  | v :: r, w, g, o, h => by
    have e1 : w.setCell ⟨g, o, none⟩ v = w.setRow g ((w.rowAt g).setIfInBounds o v) := by
      have h2 := setCell_setRow_free w g (w.rowAt g) h o v
      rw [setRow_same' _ _ h] at h2
      exact h2
    have hfr : (w.setRow g ((w.rowAt g).setIfInBounds o v)).rowFree g = true := rowFree_setRow_free _ _ _ h
    rw [World.setCells, e1, setCells_row r _ g (o + 1) hfr, rowAt_setRow_free _ _ _ h, putAt, setRow_setRow]
theorem there_row {w : World} {g o n : Nat} (hf : w.rowFree g = true) (h : o + n ≤ (w.rowAt g).size) : w.there g o n := fun j hj => by
  obtain ⟨t, hg⟩ := row_of_free w hf
  refine ⟨?_, ?_⟩
  · rw [cell_rowAt, Array.getElem?_eq_getElem (by omega)]; rfl
  · have := frozen_setRow_free w g (w.rowAt g) hf (o + j)
    rwa [setRow_same' _ _ hf] at this
theorem iv_bys (l : List Nat) : (iv l).toList = bys l := rfl
theorem arr_ext {a b : Array Value} (h : a.toList = b.toList) : a = b := by cases a; cases b; simpa using h
theorem load_part {w : World} {g o : Nat} {cs : List Value} (hl : cs.length = 32) (h : w.rangeAt g o cs) : (rowLoad 24 (.pointer (some ⟨g, o, none⟩))).run Try.prog w = .ok (.value (.agg cs.toArray)) w := by
  unfold rowLoad
  rw [Sem.run_bind, run_loadAt_mid w g o 24 cs _ h under_id rfl (by rw [hl]; exact size_id)]
  rfl
theorem store_part {w : World} {g o : Nat} {l : List Nat} (hl : l.length = 32) (hf : w.rowFree g = true) (h : o + 32 ≤ (w.rowAt g).size) : (rowStore 24 (.pointer (some ⟨g, o, none⟩)) (.agg (iv l))).run Try.prog w = .ok .skip (w.setRow g (putAt (w.rowAt g) o (iv l).toList)) := by
  have hs : (iv l).size = 32 := by rw [iv_size, hl]
  unfold rowStore
  rw [Sem.run_bind, run_storeAt_mid w g o 24 (iv l) (there_row hf (by rw [hs]; exact h)) (by rw [hs]; exact size_id) (iv_all l), setCells_row _ _ _ _ hf]
  rfl
theorem run_buildSlice1 {tt e : TypeId} {i : TypeInfo} {S : Nat} {C Z : Array Value} (ht : Try.prog.underlying tt = some (.slice e)) (hi : Try.prog.info? e = some i) (hz : i.zero = some (.agg Z)) (hs : i.size = S) (hZ : Z.size = S) (hC : C.size = S) (h0 : 0 < S) (hS : S ≤ 1000) (w : World) :
    (Instr.buildSlice tt 1 #[(0, .agg C)]).run Try.prog w = .ok (.slice (some ⟨w.heap.size, 0, none⟩) 1 1) (w.alloc (.cells C e)) := by
  have hsz : (sizeOf e).run Try.prog w = .ok S w := by simp [sizeOf, typeInfo, hi, hs]
  have hzv : (zeroValue e).run Try.prog w = .ok (.agg Z) w := by simp [zeroValue, typeInfo, hi, hz]
  have h24 : ¬ (1 * S > 2 ^ 24) := by omega
  have hn0 : ¬ (1 * S = 0) := by omega
  have hf : ∀ D : Array Value, D.size = S → Instr.fill (fun i => some (i * S, S)) D [(0, .agg C)] = some C := fun D hD => by
    have sa : (Value.agg C).cells = C := rfl
    simp only [Instr.fill, sa, hC]
    have ea : C.zipIdx = (C.toList.zipIdx).toArray := by cases C; simp
    have h1 := foldl_set C.toList 0 (0 * S) D (by simp [hC, hD])
    rw [ea, List.foldl_toArray]
    rw [if_neg (by simp [hD])]
    congr 1
    refine arr_ext ?_
    rw [h1]
    simp [hC, hD]
  unfold Instr.buildSlice
  simp only [Sem.run_bind, run_underlying ht w, Result.andThen_ok, hsz, h24, hn0, if_false, hzv, Sem.run_pure]
  rw [hf _ (by simp)]
  simp [newRow]
def islBuild (x : Value) : Sem Next := do let v ← Instr.buildSlice 43 1 #[(0, x)]; pure (.value v)
section
variable (ρ : Operand → Value) (d : Option Tmp) (x y : Operand) (t : TypeId) (p : String) (a : Array Edge) (g : Option (Nat × Bool))
@[go_sem ↓] theorem ex_islBuild : execOp ρ ⟨d, .buildSlice 43 1 #[(0, x)], t, p, a, g⟩ = islBuild (ρ x) := by simp [execOp, islBuild]
end
theorem under_ids : Try.prog.underlying 43 = some (.slice 24) := by kernel_rfl
set_option maxRecDepth 100000 in
theorem info_id : ∃ i, Try.prog.info? 24 = some i ∧ i.zero = some (.agg (iv id0)) ∧ i.size = 32 ∧ i.bytes = 32 := by
  refine ⟨_, rfl, ?_, ?_, ?_⟩ <;> kernel_rfl
@[go_sem] theorem run_islBuild (a : List Nat) (ha : a.length = 32) (w : World) : (islBuild (.agg (iv a))).run Try.prog w = .ok (.value (.slice (some ⟨w.heap.size, 0, none⟩) 1 1)) (w.alloc (.cells (iv a) 24)) := by
  obtain ⟨i, hi, hz, hs, _⟩ := info_id
  unfold islBuild
  rw [Sem.run_bind, run_buildSlice1 under_ids hi hz hs (by rw [iv_size, id0_len]) (by rw [iv_size, ha]) (by omega) (by omega)]
  rfl
theorem grownBy_setRow (w : World) (g : Nat) (cs : Array Value) : w.grownBy (w.setRow g cs) (some g) :=
  ⟨rfl, rfl, rfl, by rw [setRow_size]; exact Nat.le_refl _, fun k _ hne => by
    have : g ≠ k := fun h => hne (by rw [h])
    unfold World.setRow
    simp [Array.getElem?_modify, this]⟩
theorem World.heap_setRow_ne (w : World) (g : Nat) (cs : Array Value) (k : Nat) (h : g ≠ k) : (w.setRow g cs).heap[k]? = w.heap[k]? := by
  unfold World.setRow
  simp [Array.getElem?_modify, h]
end Go.Proofs.Ytnhcamklammcdaa
/- Division bit by bit. No program in sight. -/
namespace Go.Proofs.Ytnhcamklammcdaa
set_option linter.unusedVariables false
set_option linter.unusedSimpArgs false

theorem lb_or (x y i : Nat) : lb (x ||| y) i = lb x i ||| lb y i := by
  apply Nat.eq_of_testBit_eq
  intro k
  rw [lb_bit, Nat.testBit_or, Nat.testBit_or, lb_bit, lb_bit, Bool.and_or_distrib_left]
theorem lb_pow (n i : Nat) : lb (2 ^ n) i = if i = n / 64 then 2 ^ (n % 64) else 0 := by
  apply Nat.eq_of_testBit_eq
  intro k
  rw [lb_bit, Nat.testBit_two_pow]
  by_cases h : i = n / 64
  · subst h
    rw [if_pos rfl, Nat.testBit_two_pow]
    by_cases hk : n % 64 = k
    · have h1 : k < 64 := by omega
      have h2 : n = 64 * (n / 64) + k := by omega
      simp [hk, h1, ← h2]
    · have h2 : ¬ (n = 64 * (n / 64) + k) := by omega
      simp [hk, h2]
  · rw [if_neg h]
    have h2 : ¬ (k < 64 ∧ n = 64 * i + k) := by omega
    simp only [Nat.zero_testBit, Bool.and_eq_false_iff, decide_eq_false_iff_not]
    by_cases hk : k < 64
    · exact .inr fun e => h2 ⟨hk, e⟩
    · exact .inl hk
theorem add_pow (q n : Nat) (h : q % 2 ^ (n + 1) = 0) : q + 2 ^ n = q ||| 2 ^ n := by
  have hq : q = (q / 2 ^ (n + 1)) <<< (n + 1) := by
    rw [Nat.shiftLeft_eq]; exact (Nat.div_mul_cancel (Nat.dvd_of_mod_eq_zero h)).symm
  rw [hq]
  exact Nat.shiftLeft_add_eq_or_of_lt (Nat.pow_lt_pow_right (by decide) (by omega)) _

theorem four (i : Nat) (h : i < 4) : i = 0 ∨ i = 1 ∨ i = 2 ∨ i = 3 := by omega
theorem wv_at (q i : Nat) (h : i < 4) : (wv q)[i]? = some (.int .u64 (lb q i)) := by
  rcases four i h with rfl | rfl | rfl | rfl <;> rfl
theorem wv_or (q n : Nat) (h : n < 256) (hq : q % 2 ^ (n + 1) = 0) : (wv q).setIfInBounds (n / 64) (.int .u64 (lb q (n / 64) ||| 2 ^ (n % 64) : Nat)) = wv (q + 2 ^ n) := by
  rw [add_pow q n hq]
  have e : ∀ i, lb (q ||| 2 ^ n) i = lb q i ||| if i = n / 64 then 2 ^ (n % 64) else 0 := fun i => by rw [lb_or, lb_pow]
  have hi : n / 64 < 4 := by omega
  unfold wv
  rw [e 0, e 1, e 2, e 3]
  rcases four _ hi with h0 | h0 | h0 | h0 <;> rw [h0] <;> simp

theorem div_up (y n : Nat) (b : Nat) (hy : y < 2 ^ b) (h : n + b ≤ 256) : y <<< n < B256 := by
  rw [Nat.shiftLeft_eq]
  have h1 : y * 2 ^ n < 2 ^ b * 2 ^ n := (Nat.mul_lt_mul_right (Nat.two_pow_pos n)).2 hy
  rw [← Nat.pow_add] at h1
  have h2 : 2 ^ (b + n) ≤ 2 ^ 256 := Nat.pow_le_pow_right (by decide) (by omega)
  have h3 : (2 ^ 256 : Nat) = B256 := by decide +kernel
  omega
theorem div_yes (x y q r n : Nat) (hx : x = q * y + r) (hr : r < y * 2 ^ (n + 1)) (hq : q % 2 ^ (n + 1) = 0) (hu : y <<< n ≤ r) :
    x = (q + 2 ^ n) * y + (r - y <<< n) ∧ r - y <<< n < y * 2 ^ n ∧ (q + 2 ^ n) % 2 ^ n = 0 := by
  rw [Nat.shiftLeft_eq] at *
  have e : y * 2 ^ (n + 1) = y * 2 ^ n + y * 2 ^ n := by rw [Nat.pow_succ]; rw [← Nat.mul_assoc]; omega
  refine ⟨?_, by omega, ?_⟩
  · rw [Nat.add_mul, Nat.mul_comm (2 ^ n) y]; omega
  · rw [Nat.add_mod_right]
    have : 2 ^ n ∣ q := Nat.dvd_trans ⟨2, Nat.pow_succ 2 n⟩ (Nat.dvd_of_mod_eq_zero hq)
    exact Nat.mod_eq_zero_of_dvd this
theorem div_no (x y q r n : Nat) (hr : r < y * 2 ^ (n + 1)) (hq : q % 2 ^ (n + 1) = 0) (hu : ¬ y <<< n ≤ r) :
    r < y * 2 ^ n ∧ q % 2 ^ n = 0 := by
  rw [Nat.shiftLeft_eq] at *
  refine ⟨by omega, ?_⟩
  have : 2 ^ n ∣ q := Nat.dvd_trans ⟨2, Nat.pow_succ 2 n⟩ (Nat.dvd_of_mod_eq_zero hq)
  exact Nat.mod_eq_zero_of_dvd this
theorem div_end (x y q r : Nat) (hx : x = q * y + r) (hr : r < y) : q = x / y ∧ r = x % y := by
  have h0 : 0 < y := by omega
  rw [Nat.mul_comm] at hx
  subst hx
  rw [Nat.mul_add_div h0, Nat.mul_add_mod, Nat.div_eq_of_lt hr, Nat.mod_eq_of_lt hr]
  exact ⟨rfl, rfl⟩
end Go.Proofs.Ytnhcamklammcdaa
/- wide's Of, Add, Cmp, and numbers by '=='. -/
namespace Go.Proofs.Ytnhcamklammcdaa
set_option linter.unusedVariables false
set_option linter.unusedSimpArgs false
open Go.RowKit
theorem wv_of {n : Nat} (h : n < 18446744073709551616) : wv n = #[Value.int .u64 n, Value.int .u64 0, Value.int .u64 0, Value.int .u64 0] := by
  have := wv_w4 (a := n) (b := 0) (c := 0) (d := 0) h (by omega) (by omega) (by omega)
  simp only [w4, Nat.mul_zero, Nat.add_zero] at this
  rw [← this]; rfl

set_option maxHeartbeats 400000 in
theorem of_any (n : Nat) (h : n < 18446744073709551616) (w : World) :
    Calls Try.prog 27 #[.int .u64 n] w fun e w' => e = .returned (.agg (wv n)) ∧ Grew w w' := by
  have hw := wv_of h
  go_enter Try.func27, Try.ntmps27
  go_wp2
  refine bodyPost_ret (v := .agg (wv n)) ?_ rfl ⟨rfl, (Grew.refl _).alloc _⟩
  simp [results, Try.results27, go_sem]
  exact hw.symm


def addEntry : Array Value → Sem Value := fun args => do
  let (x, y, c) ← Extern.MathBitsCarry.three "Add64" args
  pure (Extern.MathBitsCarry.pair ((x + y + c) % Extern.MathBitsCarry.m64) ((x + y + c) / Extern.MathBitsCarry.m64))
theorem run_addEntry (x y c : Nat) (hc : c ≤ 1) (w : World) :
    (addEntry #[.int .u64 x, .int .u64 y, .int .u64 c]).run Try.prog w = .ok (.tuple #[.int .u64 ((x + y + c) % 18446744073709551616 : Nat), .int .u64 ((x + y + c) / 18446744073709551616 : Nat)]) w := by
  have : c = 0 ∨ c = 1 := by omega
  rcases this with rfl | rfl <;> rfl
theorem call_add64 (x y c : Nat) (hc : c ≤ 1) (w : World) : (callFunc 45 #[.int .u64 x, .int .u64 y, .int .u64 c]).run Try.prog w =
    .ok (.value (.tuple #[.int .u64 ((x + y + c) % 18446744073709551616 : Nat), .int .u64 ((x + y + c) / 18446744073709551616 : Nat)])) w := by
  rw [run_callFunc_extern Try.func45 (by kernel_rfl) (by kernel_rfl) (by kernel_rfl) (e := addEntry) (by kernel_rfl), run_addEntry x y c hc]
  rfl

/-- What goes into the next part. -/
def cy (x y c : Nat) : Nat := (x + y + c) / 18446744073709551616
def sm (x y c : Nat) : Nat := (x + y + c) % 18446744073709551616
theorem cy_le (x y c : Nat) (hx : x < 18446744073709551616) (hy : y < 18446744073709551616) (hc : c ≤ 1) : cy x y c ≤ 1 := by unfold cy; omega
def cys (x y : Nat) : Nat → Nat
  | 0 => 0
  | i + 1 => cy (lb x i) (lb y i) (cys x y i)
theorem cys_le (x y : Nat) : ∀ i, cys x y i ≤ 1
  | 0 => Nat.zero_le _
  | i + 1 => cy_le _ _ _ (lb_lt _ _) (lb_lt _ _) (cys_le x y i)
def sms (x y i : Nat) : Nat := sm (lb x i) (lb y i) (cys x y i)
theorem sm_spec (x y c : Nat) : x + y + c = sm x y c + 18446744073709551616 * cy x y c ∧ sm x y c < 18446744073709551616 := by
  unfold sm cy; omega
theorem add_parts (x y : Nat) (hx : x < B256) (hy : y < B256) :
    x + y = w4 (sms x y 0) (sms x y 1) (sms x y 2) (sms x y 3) + B256 * cys x y 4 := by
  have h0 := (sm_spec (lb x 0) (lb y 0) (cys x y 0)).1
  have h1 := (sm_spec (lb x 1) (lb y 1) (cys x y 1)).1
  have h2 := (sm_spec (lb x 2) (lb y 2) (cys x y 2)).1
  have h3 := (sm_spec (lb x 3) (lb y 3) (cys x y 3)).1
  have ex := w4_lb x
  have ey := w4_lb y
  rw [Nat.mod_eq_of_lt hx] at ex
  rw [Nat.mod_eq_of_lt hy] at ey
  have b0 : cys x y 0 = 0 := rfl
  have b1 : cys x y 1 = cy (lb x 0) (lb y 0) (cys x y 0) := rfl
  have b2 : cys x y 2 = cy (lb x 1) (lb y 1) (cys x y 1) := rfl
  have b3 : cys x y 3 = cy (lb x 2) (lb y 2) (cys x y 2) := rfl
  have b4 : cys x y 4 = cy (lb x 3) (lb y 3) (cys x y 3) := rfl
  unfold w4 at *
  unfold sms
  unfold B256 at *
  omega
theorem add_cells (x y : Nat) (hx : x < B256) (hy : y < B256) : #[Value.int .u64 (sms x y 0), Value.int .u64 (sms x y 1), Value.int .u64 (sms x y 2), Value.int .u64 (sms x y 3)] = wv (x + y) := by
  have h := add_parts x y hx hy
  refine (wv_w4 (a := sms x y 0) (b := sms x y 1) (c := sms x y 2) (d := sms x y 3) (sm_spec _ _ _).2 (sm_spec _ _ _).2 (sm_spec _ _ _).2 (sm_spec _ _ _).2).trans (wv_inj.2 ?_)
  rw [h]
  exact (Nat.add_mul_mod_self_left _ _ _).symm
theorem add_over (x y : Nat) (hx : x < B256) (hy : y < B256) : ((cys x y 4 : Nat) : Int) = 0 ↔ x + y < B256 := by
  have h := add_parts x y hx hy
  have hb := cys_le x y 4
  have hd : w4 (sms x y 0) (sms x y 1) (sms x y 2) (sms x y 3) < B256 := w4_lt (sm_spec _ _ _).2 (sm_spec _ _ _).2 (sm_spec _ _ _).2 (sm_spec _ _ _).2
  generalize w4 _ _ _ _ = d at *
  unfold B256 at *
  omega

def bw (x y c : Nat) : Nat := if x < y + c then 1 else 0
def df (x y c : Nat) : Nat := (x + 18446744073709551616 - y - c) % 18446744073709551616
theorem bw_le (x y c : Nat) : bw x y c ≤ 1 := by unfold bw; split <;> omega
def bws (x y : Nat) : Nat → Nat
  | 0 => 0
  | i + 1 => bw (lb x i) (lb y i) (bws x y i)
theorem bws_le (x y : Nat) : ∀ i, bws x y i ≤ 1
  | 0 => Nat.zero_le _
  | i + 1 => bw_le _ _ _
def dfs (x y i : Nat) : Nat := df (lb x i) (lb y i) (bws x y i)
/-- One part of a difference, told by sums alone. -/
theorem df_spec (x y c : Nat) (hx : x < 18446744073709551616) (hy : y < 18446744073709551616) (hc : c ≤ 1) : x + 18446744073709551616 * bw x y c = y + c + df x y c ∧ df x y c < 18446744073709551616 := by
  unfold bw df; split <;> omega
theorem sub_parts (x y : Nat) (hx : x < B256) (hy : y < B256) :
    x + B256 * bws x y 4 = y + w4 (dfs x y 0) (dfs x y 1) (dfs x y 2) (dfs x y 3) := by
  have h0 := df_spec (lb x 0) (lb y 0) (bws x y 0) (lb_lt _ _) (lb_lt _ _) (bws_le x y 0)
  have h1 := df_spec (lb x 1) (lb y 1) (bws x y 1) (lb_lt _ _) (lb_lt _ _) (bws_le x y 1)
  have h2 := df_spec (lb x 2) (lb y 2) (bws x y 2) (lb_lt _ _) (lb_lt _ _) (bws_le x y 2)
  have h3 := df_spec (lb x 3) (lb y 3) (bws x y 3) (lb_lt _ _) (lb_lt _ _) (bws_le x y 3)
  have ex := w4_lb x
  have ey := w4_lb y
  rw [Nat.mod_eq_of_lt hx] at ex
  rw [Nat.mod_eq_of_lt hy] at ey
  have b0 : bws x y 0 = 0 := rfl
  have b1 : bws x y 1 = bw (lb x 0) (lb y 0) (bws x y 0) := rfl
  have b2 : bws x y 2 = bw (lb x 1) (lb y 1) (bws x y 1) := rfl
  have b3 : bws x y 3 = bw (lb x 2) (lb y 2) (bws x y 2) := rfl
  have b4 : bws x y 4 = bw (lb x 3) (lb y 3) (bws x y 3) := rfl
  unfold w4 at *
  unfold dfs
  unfold B256 at *
  omega
theorem sub_cells (x y : Nat) (hx : x < B256) (hy : y < B256) : #[Value.int .u64 (dfs x y 0), Value.int .u64 (dfs x y 1), Value.int .u64 (dfs x y 2), Value.int .u64 (dfs x y 3)] = wv (x + B256 - y) := by
  have h := sub_parts x y hx hy
  have hb := bws_le x y 4
  refine (wv_w4 (a := dfs x y 0) (b := dfs x y 1) (c := dfs x y 2) (d := dfs x y 3) (df_spec _ _ _ (lb_lt _ _) (lb_lt _ _) (bws_le _ _ _)).2 (df_spec _ _ _ (lb_lt _ _) (lb_lt _ _) (bws_le _ _ _)).2 (df_spec _ _ _ (lb_lt _ _) (lb_lt _ _) (bws_le _ _ _)).2 (df_spec _ _ _ (lb_lt _ _) (lb_lt _ _) (bws_le _ _ _)).2).trans (wv_inj.2 ?_)
  unfold B256 at *
  generalize w4 (dfs x y 0) (dfs x y 1) (dfs x y 2) (dfs x y 3) = d at *
  omega
theorem sub_over (x y : Nat) (hx : x < B256) (hy : y < B256) : ((bws x y 4 : Nat) : Int) = 0 ↔ y ≤ x := by
  have h := sub_parts x y hx hy
  have hb := bws_le x y 4
  have hd : w4 (dfs x y 0) (dfs x y 1) (dfs x y 2) (dfs x y 3) < B256 := w4_lt (df_spec _ _ _ (lb_lt _ _) (lb_lt _ _) (bws_le _ _ _)).2 (df_spec _ _ _ (lb_lt _ _) (lb_lt _ _) (bws_le _ _ _)).2 (df_spec _ _ _ (lb_lt _ _) (lb_lt _ _) (bws_le _ _ _)).2 (df_spec _ _ _ (lb_lt _ _) (lb_lt _ _) (bws_le _ _ _)).2
  generalize w4 (dfs x y 0) (dfs x y 1) (dfs x y 2) (dfs x y 3) = d at *
  unfold B256 at *
  omega

set_option maxRecDepth 100000 in
set_option maxHeartbeats 1600000 in
theorem carry_add (x y : Nat) (hx : x < B256) (hy : y < B256) (w : World) :
    Calls Try.prog 44 #[.agg (wv x), .agg (wv y), .func (.func 45) #[] #[]] w fun e w' => e = .returned (.tuple #[.agg (wv (x + y)), .bool (decide (x + y < B256))]) ∧ Grew w w' := by
  have h0 : ∀ (w : World), (callFunc 45 #[.int .u64 (lb x 0), .int .u64 (lb y 0), .int .u64 0]).run Try.prog w =
    .ok (.value (.tuple #[.int .u64 (sms x y 0), .int .u64 (cys x y 1)])) w := call_add64 _ _ 0 (by omega)
  have h1 : ∀ (w : World), (callFunc 45 #[.int .u64 (lb x 1), .int .u64 (lb y 1), .int .u64 (cys x y 1)]).run Try.prog w =
    .ok (.value (.tuple #[.int .u64 (sms x y 1), .int .u64 (cys x y 2)])) w := call_add64 _ _ _ (cys_le _ _ _)
  have h2 : ∀ (w : World), (callFunc 45 #[.int .u64 (lb x 2), .int .u64 (lb y 2), .int .u64 (cys x y 2)]).run Try.prog w =
    .ok (.value (.tuple #[.int .u64 (sms x y 2), .int .u64 (cys x y 3)])) w := call_add64 _ _ _ (cys_le _ _ _)
  have h3 : ∀ (w : World), (callFunc 45 #[.int .u64 (lb x 3), .int .u64 (lb y 3), .int .u64 (cys x y 3)]).run Try.prog w =
    .ok (.value (.tuple #[.int .u64 (sms x y 3), .int .u64 (cys x y 4)])) w := call_add64 _ _ _ (cys_le _ _ _)
  have hcells := add_cells x y hx hy
  have hover := add_over x y hx hy
  have Hc := Lib.hid hcells
  have Ho := Lib.hid hover
  clear hx hy hcells hover
  go_enter Try.func44, Try.ntmps44
  go_wp2
  refine wp_loop_rounds 5 ?_
  iterate 4
    rw [rounds_succ]
    go_wp2
    first | refine wp_region_pure_tail_g 14 (by kernel_rfl) (by kernel_rfl) (by intro _ _ _ d _ h; cases d <;> exact h) ?_ | refine wp_region_pure_tail 14 (by kernel_rfl) (by kernel_rfl) (by intro _ _ _ d _ h; cases d <;> exact h) ?_
    simp only [List.take_succ_cons, List.take_zero, List.drop_succ_cons, List.drop_zero]
    repeat (go_big_quiet_step ((fail)))
    refine wpQuiet_nil ?_
    intro _ hw'
    obtain ⟨δ1, hw''⟩ := hw'
    subst hw''
    go_wp2
  rw [rounds_succ]
  go_wp2
  refine bodyPost_ret (v := .tuple #[.agg (wv (x + y)), .bool (decide (x + y < B256))]) ?_ rfl ⟨rfl, (by repeat (first | with_reducible exact Grew.refl _ | with_reducible apply Grew.alloc | with_reducible apply Grew.grow | with_reducible apply Grew.drew | with_reducible apply Grew.drewN))⟩
  simp [results, Try.results44, go_sem]
  exact ⟨Hc.out, by rw [Bool.eq_iff_iff, beq_iff_eq, decide_eq_true_eq]; exact Ho.out⟩

set_option maxHeartbeats 400000 in
theorem add_any (x y : Nat) (hx : x < B256) (hy : y < B256) (w : World) :
    Calls Try.prog 24 #[.agg (wv x), .agg (wv y)] w fun e w' => e = .returned (.tuple #[.agg (wv (x + y)), .bool (decide (x + y < B256))]) ∧ Grew w w' := by
  have hcall := fun w => carry_add x y hx hy w
  clear hx hy
  go_enter Try.func24, Try.ntmps24
  go_wp2_with (go_at_call 44; refine (hcall _).mono ?_; rintro e w' ⟨rfl, δ, rfl⟩)
  refine bodyPost_ret (v := .tuple #[.agg (wv (x + y)), .bool (decide (x + y < B256))]) ?_ rfl ⟨rfl, (by repeat (first | with_reducible exact Grew.refl _ | with_reducible apply Grew.alloc | with_reducible apply Grew.grow | with_reducible apply Grew.drew | with_reducible apply Grew.drewN))⟩
  simp [results, Try.results24, go_sem]


/-- -1, 0 or 1. -/
def cmpN (x y : Nat) : Int := if x < y then -1 else if y < x then 1 else 0
set_option maxHeartbeats 400000 in
theorem isNaN_any (a : Nat) (w : World) : Calls Try.prog 65 #[.int .u64 a] w fun e w' => e = .returned (.bool false) ∧ Grew w w' := by
  go_enter Try.func65, Try.ntmps65
  go_wp2
  go_ret
  exact ⟨by simp, Grew.refl _⟩
set_option maxHeartbeats 400000 in
theorem compare_any (a b : Nat) (w : World) : Calls Try.prog 49 #[.int .u64 a, .int .u64 b] w fun e w' => e = .returned (.int .i64 (cmpN a b)) ∧ Grew w w' := by
  by_cases h1 : a < b
  · go_enter Try.func49, Try.ntmps49
    go_wp2_with (go_at_call 65; refine (isNaN_any _ _).mono ?_; rintro e w' ⟨rfl, δ, rfl⟩)
    go_ret
    exact ⟨by simp [cmpN, h1], (by repeat (first | with_reducible exact Grew.refl _ | with_reducible apply Grew.alloc | with_reducible apply Grew.grow | with_reducible apply Grew.drew | with_reducible apply Grew.drewN))⟩
  by_cases h2 : b < a
  · go_enter Try.func49, Try.ntmps49
    go_wp2_with (go_at_call 65; refine (isNaN_any _ _).mono ?_; rintro e w' ⟨rfl, δ, rfl⟩)
    go_ret
    exact ⟨by simp [cmpN, h1, h2], (by repeat (first | with_reducible exact Grew.refl _ | with_reducible apply Grew.alloc | with_reducible apply Grew.grow | with_reducible apply Grew.drew | with_reducible apply Grew.drewN))⟩
  · go_enter Try.func49, Try.ntmps49
    go_wp2_with (go_at_call 65; refine (isNaN_any _ _).mono ?_; rintro e w' ⟨rfl, δ, rfl⟩)
    go_ret
    exact ⟨by simp [cmpN, h1, h2], (by repeat (first | with_reducible exact Grew.refl _ | with_reducible apply Grew.alloc | with_reducible apply Grew.grow | with_reducible apply Grew.drew | with_reducible apply Grew.drewN))⟩

def or4 (a b c d : Int) : Int := if a ≠ 0 then a else if b ≠ 0 then b else if c ≠ 0 then c else d
set_option maxRecDepth 100000 in
set_option maxHeartbeats 800000 in
theorem or_any (a b c d : Int) (g : Nat) (w : World) (h0 : w.cell? ⟨g, 0, none⟩ = some (.int .i64 a)) (h1 : w.cell? ⟨g, 1, none⟩ = some (.int .i64 b)) (h2 : w.cell? ⟨g, 2, none⟩ = some (.int .i64 c)) (h3 : w.cell? ⟨g, 3, none⟩ = some (.int .i64 d)) :
    Calls Try.prog 48 #[.slice (some ⟨g, 0, none⟩) 4 4] w fun e w' => e = .returned (.int .i64 (or4 a b c d)) ∧ Grew w w' := by
  by_cases ha : a = 0
  · subst ha
    by_cases hb : b = 0
    · subst hb
      by_cases hc : c = 0
      · subst hc
        by_cases hd : d = 0
        · subst hd
          go_enter Try.func48, Try.ntmps48
          go_wp2
          refine wp_loop_rounds 5 ?_
          iterate 4
            rw [rounds_succ]
            go_wp2
          rw [rounds_succ]
          go_wp2
          go_ret
          exact ⟨rfl, Grew.refl _⟩
        · have hd' : (d != 0) = true := by simpa using hd
          go_enter Try.func48, Try.ntmps48
          go_wp2
          refine wp_loop_rounds 5 ?_
          iterate 4
            rw [rounds_succ]
            go_wp2
          go_ret
          exact ⟨by simp [or4], Grew.refl _⟩
      · have hc' : (c != 0) = true := by simpa using hc
        go_enter Try.func48, Try.ntmps48
        go_wp2
        refine wp_loop_rounds 5 ?_
        iterate 3
          rw [rounds_succ]
          go_wp2
        go_ret
        exact ⟨by simp [or4, hc], Grew.refl _⟩
    · have hb' : (b != 0) = true := by simpa using hb
      go_enter Try.func48, Try.ntmps48
      go_wp2
      refine wp_loop_rounds 5 ?_
      iterate 2
        rw [rounds_succ]
        go_wp2
      go_ret
      exact ⟨by simp [or4, hb], Grew.refl _⟩
  · have ha' : (a != 0) = true := by simpa using ha
    go_enter Try.func48, Try.ntmps48
    go_wp2
    refine wp_loop_rounds 5 ?_
    rw [rounds_succ]
    go_wp2
    go_ret
    exact ⟨by simp [or4, ha], Grew.refl _⟩

theorem cmpN_lt {x y : Nat} (h : x < y) : cmpN x y = -1 := by unfold cmpN; rw [if_pos h]
theorem cmpN_gt {x y : Nat} (h : y < x) : cmpN x y = 1 := by unfold cmpN; rw [if_neg (by omega), if_pos h]
theorem cmpN_eq {x y : Nat} (h : x = y) : cmpN x y = 0 := by unfold cmpN; rw [if_neg (by omega), if_neg (by omega)]
theorem cmp_parts (x y : Nat) (hx : x < B256) (hy : y < B256) : or4 (cmpN (lb x 3) (lb y 3)) (cmpN (lb x 2) (lb y 2)) (cmpN (lb x 1) (lb y 1)) (cmpN (lb x 0) (lb y 0)) = cmpN x y := by
  have ex := w4_lb x
  have ey := w4_lb y
  rw [Nat.mod_eq_of_lt hx] at ex
  rw [Nat.mod_eq_of_lt hy] at ey
  clear hx hy
  have := lb_lt x 0; have := lb_lt x 1; have := lb_lt x 2; have := lb_lt x 3
  have := lb_lt y 0; have := lb_lt y 1; have := lb_lt y 2; have := lb_lt y 3
  unfold w4 at ex ey
  generalize lb x 0 = x0 at *; generalize lb x 1 = x1 at *; generalize lb x 2 = x2 at *; generalize lb x 3 = x3 at *
  generalize lb y 0 = y0 at *; generalize lb y 1 = y1 at *; generalize lb y 2 = y2 at *; generalize lb y 3 = y3 at *
  rcases Nat.lt_trichotomy x3 y3 with h | h | h
  · simp [or4, cmpN_lt h, cmpN_lt (show x < y by omega)]
  · rcases Nat.lt_trichotomy x2 y2 with h2 | h2 | h2
    · simp [or4, cmpN_eq h, cmpN_lt h2, cmpN_lt (show x < y by omega)]
    · rcases Nat.lt_trichotomy x1 y1 with h1 | h1 | h1
      · simp [or4, cmpN_eq h, cmpN_eq h2, cmpN_lt h1, cmpN_lt (show x < y by omega)]
      · rcases Nat.lt_trichotomy x0 y0 with h0 | h0 | h0
        · simp [or4, cmpN_eq h, cmpN_eq h2, cmpN_eq h1, cmpN_lt h0, cmpN_lt (show x < y by omega)]
        · simp [or4, cmpN_eq h, cmpN_eq h2, cmpN_eq h1, cmpN_eq h0, cmpN_eq (show x = y by omega)]
        · simp [or4, cmpN_eq h, cmpN_eq h2, cmpN_eq h1, cmpN_gt h0, cmpN_gt (show y < x by omega)]
      · simp [or4, cmpN_eq h, cmpN_eq h2, cmpN_gt h1, cmpN_gt (show y < x by omega)]
    · simp [or4, cmpN_eq h, cmpN_gt h2, cmpN_gt (show y < x by omega)]
  · simp [or4, cmpN_gt h, cmpN_gt (show y < x by omega)]

set_option maxRecDepth 100000 in
set_option maxHeartbeats 1600000 in
theorem cmp_any (x y : Nat) (hx : x < B256) (hy : y < B256) (w : World) :
    Calls Try.prog 29 #[.agg (wv x), .agg (wv y)] w fun e w' => e = .returned (.int .i64 (cmpN x y)) ∧ Grew w w' := by
  have H := Lib.hid (cmp_parts x y hx hy)
  clear hx hy
  go_enter Try.func29, Try.ntmps29
  go_wp2
  first | refine wp_region_pure_tail_g 20 (by kernel_rfl) (by kernel_rfl) (by intro _ _ _ d _ h; cases d <;> exact h) ?_ | refine wp_region_pure_tail 20 (by kernel_rfl) (by kernel_rfl) (by intro _ _ _ d _ h; cases d <;> exact h) ?_
  simp only [List.take_succ_cons, List.take_zero, List.drop_succ_cons, List.drop_zero]
  repeat (go_big_quiet_step ((go_at_call 49; exact Calls.pure_of (compare_any _ _ _))))
  refine wpQuiet_nil ?_
  intro _ hw'
  obtain ⟨δ1, hw''⟩ := hw'
  subst hw''
  go_wp2_with (go_at_call 48; refine (or_any (cmpN (lb x 3) (lb y 3)) (cmpN (lb x 2) (lb y 2)) (cmpN (lb x 1) (lb y 1)) (cmpN (lb x 0) (lb y 0)) _ _ (by simp [go_sem]) (by simp [go_sem]) (by simp [go_sem]) (by simp [go_sem])).mono ?_; rintro e w' ⟨rfl, δ, rfl⟩)
  go_ret
  exact ⟨by first | rfl | (rw [H.out]; rfl), (by repeat (first | with_reducible exact Grew.refl _ | with_reducible apply Grew.alloc | with_reducible apply Grew.grow | with_reducible apply Grew.drew | with_reducible apply Grew.drewN))⟩

/-- Are two numbers the same, below 2^256? -/
def weq (a b : Nat) : Bool := decide (a % B256 = b % B256)
theorem weq_lt {a b : Nat} (ha : a < B256) (hb : b < B256) : weq a b = decide (a = b) := by
  unfold weq; rw [Nat.mod_eq_of_lt ha, Nat.mod_eq_of_lt hb]
theorem cells_wide (a : Nat) : wv a = ([(lb a 0 : Int), (lb a 1 : Int), (lb a 2 : Int), (lb a 3 : Int)].map (Value.int .u64)).toArray := rfl
theorem equal_wide (a b : Nat) (w : World) : (Op.equalIn 10000 27 (.agg (wv a)) (.agg (wv b))).run Try.prog w = .ok (weq a b) w := by
  rw [cells_wide, cells_wide, show (10000 : Nat) = 9998 + 2 from rfl, run_equalIn_ints w 9998 Try.underlying27 Try.underlying25 (by kernel_rfl) _ _ rfl rfl]
  congr 1
  unfold weq
  rw [Bool.eq_iff_iff, decide_eq_true_eq, decide_eq_true_eq]
  constructor
  · intro h
    simp only [List.cons.injEq, and_true] at h
    exact lb_inj (by omega) (by omega) (by omega) (by omega)
  · intro h
    obtain ⟨h0, h1, h2, h3⟩ := lb_congr h
    rw [h0, h1, h2, h3]
theorem equal_wide0 (a : Nat) (w : World) : (Op.equalIn 10000 27 (.agg (wv a)) (.agg #[.int .u64 0, .int .u64 0, .int .u64 0, .int .u64 0])).run Try.prog w = .ok (weq a 0) w := equal_wide a 0 w
attribute [go_sem] equal_wide equal_wide0
@[go_sem] theorem guard_wide : Try.prog.eqGuardType Try.prog.depth 27 = false := by kernel_rfl
@[go_sem] theorem build_wide (w : World) : (Instr.build 27 #[]).run Try.prog w = .ok (.agg (wv 0)) w := by kernel_rfl
/-- A number below 2^256. -/
structure Wd where
  n : Nat
  lt : n < B256
theorem Wd.ext' {a b : Wd} (h : a.n = b.n) : a = b := by cases a; cases b; cases h; rfl
theorem b256_pos : 0 < B256 := by unfold B256; omega
def Wd.zero : Wd := ⟨0, b256_pos⟩
theorem Wd.of_ex (n : Nat) : ∃ s : Wd, s.n = n % B256 := ⟨⟨n % B256, Nat.mod_lt _ b256_pos⟩, rfl⟩
/-- The number of a number: nothing computes it (the kernel would). -/
noncomputable def Wd.of (n : Nat) : Wd := Classical.choose (Wd.of_ex n)
theorem Wd.of_n (n : Nat) : (Wd.of n).n = n % B256 := Classical.choose_spec (Wd.of_ex n)
noncomputable def Wd.add (a b : Wd) : Wd := .of (a.n + b.n)
def Wd.addOk (a b : Wd) : Bool := decide (a.n + b.n < B256)
noncomputable def Wd.sub (a b : Wd) : Wd := .of (a.n + B256 - b.n)
def Wd.subOk (a b : Wd) : Bool := decide (b.n ≤ a.n)
noncomputable def Wd.div (a b : Wd) : Wd := .of (a.n / b.n)
noncomputable def Wd.rem (a b : Wd) : Wd := if b.n = 0 then .zero else .of (a.n % b.n)
def Wd.divOk (a b : Wd) : Bool := decide (b.n ≠ 0)
noncomputable def Wd.up (a : Wd) (k : Int) : Wd := if k < 0 then a else .of (a.n <<< k.toNat)
noncomputable def Wd.down (a : Wd) (k : Int) : Wd := if k < 0 then a else .of (a.n >>> k.toNat)
def Wd.cmp (a b : Wd) : Int := cmpN a.n b.n
theorem wv_of' (n : Nat) : wv (Wd.of n).n = wv n := by rw [Wd.of_n]; exact wv_mod n
theorem Wd.weq (a b : Wd) : weq a.n b.n = decide (a.n = b.n) := weq_lt a.lt b.lt

theorem wof_w (n : Nat) (h : n < 18446744073709551616) (w : World) :
    Calls Try.prog 27 #[.int .u64 n] w fun e w' => e = .returned (.agg (wv n)) ∧ Grew w w' := of_any n h w
theorem wadd_w (a b : Wd) (w : World) :
    Calls Try.prog 24 #[.agg (wv a.n), .agg (wv b.n)] w fun e w' => e = .returned (.tuple #[.agg (wv (a.add b).n), .bool (a.addOk b)]) ∧ Grew w w' := by
  unfold Wd.add; rw [wv_of']; exact add_any _ _ a.lt b.lt w
theorem wcmp_w (a b : Wd) (w : World) :
    Calls Try.prog 29 #[.agg (wv a.n), .agg (wv b.n)] w fun e w' => e = .returned (.int .i64 (a.cmp b)) ∧ Grew w w' := cmp_any _ _ a.lt b.lt w
end Go.Proofs.Ytnhcamklammcdaa
/- More on numbers below 2^256; the document's Add. -/
namespace Go.Proofs.Ytnhcamklammcdaa
set_option linter.unusedVariables false
set_option linter.unusedSimpArgs false
open Go.RowKit
theorem small_b256 {n : Nat} (h : n < 1000) : n < B256 := by unfold B256; omega
theorem of_val {n : Nat} (h : n < B256) : (Wd.of n).n = n := by rw [Wd.of_n]; exact Nat.mod_eq_of_lt h
theorem Wd.add_n (a b : Wd) : (a.add b).n = (a.n + b.n) % B256 := Wd.of_n _
theorem cmpN_ge (x y : Nat) : decide (0 ≤ cmpN x y) = decide (y ≤ x) := by
  rw [Bool.eq_iff_iff, decide_eq_true_eq, decide_eq_true_eq]
  unfold cmpN; split <;> (try split) <;> omega
theorem cmpN_le (x y : Nat) : decide (cmpN x y ≤ 0) = decide (x ≤ y) := by
  rw [Bool.eq_iff_iff, decide_eq_true_eq, decide_eq_true_eq]
  unfold cmpN; split <;> (try split) <;> omega
theorem cmpN_pos (x y : Nat) : decide (0 < cmpN x y) = decide (y < x) := by
  rw [Bool.eq_iff_iff, decide_eq_true_eq, decide_eq_true_eq]
  unfold cmpN; split <;> (try split) <;> omega
theorem cmpN_neg (x y : Nat) : decide (cmpN x y < 0) = decide (x < y) := by
  rw [Bool.eq_iff_iff, decide_eq_true_eq, decide_eq_true_eq]
  unfold cmpN; split <;> (try split) <;> omega
theorem Wd.cmp_le (a b : Wd) : decide (a.cmp b ≤ 0) = decide (a.n ≤ b.n) := cmpN_le _ _
theorem Wd.cmp_pos (a b : Wd) : decide (0 < a.cmp b) = decide (b.n < a.n) := cmpN_pos _ _
theorem Wd.cmp_neg (a b : Wd) : decide (a.cmp b < 0) = decide (a.n < b.n) := cmpN_neg _ _
theorem of_wd (n : Nat) (h : n < 18446744073709551616) (w : World) :
    Calls Try.prog 27 #[.int .u64 n] w fun e w' => e = .returned (.agg (wv (Wd.of n).n)) ∧ Grew w w' := by rw [wv_of']; exact of_any n h w
theorem Wd.add_ok {a b : Wd} (h : a.addOk b = true) : (a.add b).n = a.n + b.n := by
  unfold Wd.addOk at h; rw [Wd.add_n]; exact Nat.mod_eq_of_lt (by simpa using h)
theorem Wd.of_1 : (Wd.of 1).n = 1 := of_val (small_b256 (by decide))
theorem Wd.of_2 : (Wd.of 2).n = 2 := of_val (small_b256 (by decide))
theorem Wd.eq_of {a b : Nat} (h : a = b) : Go.Proofs.Ytnhcamklammcdaa.weq a b = true := by subst h; unfold Go.Proofs.Ytnhcamklammcdaa.weq; simp
theorem Wd.ne_of {a b : Wd} (h : a.n ≠ b.n) : Go.Proofs.Ytnhcamklammcdaa.weq a.n b.n = false := by rw [weq_lt a.lt b.lt]; simpa using h
theorem Wd.ne_zero {a : Wd} (h : a.n ≠ 0) : Go.Proofs.Ytnhcamklammcdaa.weq a.n 0 = false := by rw [weq_lt a.lt b256_pos]; simpa using h
/-- Two parts, without what comes in. -/
def s2 (x y i : Nat) : Nat := (lb x i + lb y i) % 18446744073709551616
theorem s2_wrap (x y i : Nat) : IntKind.u64.wrap ((lb x i : Int) + (lb y i : Int)) = ((s2 x y i : Nat) : Int) := by
  rw [IntKind.wrap_u64]; unfold s2; omega
theorem s2_lt (x y i : Nat) : s2 x y i < 18446744073709551616 := Nat.mod_lt _ (by decide)
theorem sms_wrap (x y i : Nat) : IntKind.u64.wrap ((s2 x y i : Int) + (cys x y i : Int)) = ((sms x y i : Nat) : Int) := by
  rw [IntKind.wrap_u64]; unfold s2 sms sm; omega
theorem cys_succ (x y i : Nat) : cys x y (i + 1) = if s2 x y i < lb x i ∨ sms x y i < s2 x y i then 1 else 0 := by
  show cy (lb x i) (lb y i) (cys x y i) = _
  have h1 := lb_lt x i; have h2 := lb_lt y i; have h3 := cys_le x y i
  unfold s2 sms sm cy
  generalize lb x i = a at *; generalize lb y i = b at *; generalize cys x y i = c at *
  split <;> omega
def addF (x y k j : Nat) : Nat := if j < k then sms x y j else 0
def addC (x y k : Nat) : Array Value := #[.int .u64 (addF x y k 0), .int .u64 (addF x y k 1), .int .u64 (addF x y k 2), .int .u64 (addF x y k 3)]
theorem addC_0 (x y : Nat) : addC x y 0 = #[.int .u64 0, .int .u64 0, .int .u64 0, .int .u64 0] := rfl
theorem addC_set (x y k : Nat) (h : k < 4) : (addC x y k).setIfInBounds k (.int .u64 (sms x y k)) = addC x y (k + 1) := by
  rcases four k h with rfl | rfl | rfl | rfl <;> rfl
theorem addC_4 (x y : Nat) (hx : x < B256) (hy : y < B256) : addC x y 4 = wv (x + y) := add_cells x y hx hy
theorem addC_size (x y k : Nat) : (addC x y k).size = 4 := rfl
theorem addC_get (x y k : Nat) (h : k < 4) : (addC x y k)[k]? = some (.int .u64 (addF x y k k)) := by
  rcases four k h with rfl | rfl | rfl | rfl <;> rfl

set_option maxRecDepth 100000 in
set_option maxHeartbeats 1600000 in
theorem radd_any (x y : Nat) (hx : x < B256) (hy : y < B256) (w : World) :
    Calls Try.prog 36 #[.agg (wv x), .agg (wv y)] w fun e w' => e = .returned (.tuple #[.agg (wv (x + y)), .bool (decide (x + y < B256))]) ∧ Grew w w' := by
  have Hc := Lib.hid (addC_4 x y hx hy)
  have Ho := Lib.hid (add_over x y hx hy)
  clear hx hy
  go_enter Try.func36, Try.ntmps36
  go_wp2
  go_loopw [7, 8] (fun v n wr => ∃ (k : Nat) (δ : Junk), k ≤ 4 ∧ n = .int .i64 k ∧ v = .int .u64 (cys x y k) ∧
      wr = ((((w.alloc (.cells (wv x) 27)).alloc (.cells (wv y) 27)).alloc (.cells #[.int .u64 0, .int .u64 0, .int .u64 0, .int .u64 0] 27)).alloc (.cells (addC x y k) 27)).grow δ) (fun _ n _ => 4 - (intOf n).toNat)
  case atStart => exact ⟨0, ⟨#[], w.drawn⟩, by omega, rfl, rfl, by rw [addC_0]; exact (grow_self _).symm⟩
  case round =>
    obtain ⟨k, δ, hk, rfl, rfl, rfl⟩ := hrel
    by_cases hn : k < 4
    · have h1 : (wv x)[k]? = some (.int .u64 (lb x k)) := wv_at x k hn
      have h2 : (wv y)[k]? = some (.int .u64 (lb y k)) := wv_at y k hn
      have h3 := s2_wrap x y k
      have h4 := sms_wrap x y k
      have h5 := addC_set x y k hn
      have h6 := addC_get x y k hn
      have hcy := cys_succ x y k
      have HCY := Lib.hid hcy
      clear hcy
      have hcase : (decide (s2 x y k < lb x k) = true ∧ cys x y (k + 1) = 1) ∨ (decide (s2 x y k < lb x k) = false ∧ decide (sms x y k < s2 x y k) = true ∧ cys x y (k + 1) = 1) ∨ (decide (s2 x y k < lb x k) = false ∧ decide (sms x y k < s2 x y k) = false ∧ cys x y (k + 1) = 0) := by
        rw [HCY.out]
        by_cases a : s2 x y k < lb x k
        · exact .inl ⟨by simpa using a, by simp [a]⟩
        · by_cases b : sms x y k < s2 x y k
          · exact .inr (.inl ⟨by simpa using a, by simpa using b, by simp [b]⟩)
          · exact .inr (.inr ⟨by simpa using a, by simpa using b, by simp [a, b]⟩)
      clear HCY
      rcases hcase with ⟨a1, a2⟩ | ⟨a1, b1, a2⟩ | ⟨a1, b1, a2⟩
      all_goals
        have A2 := Lib.hid a2
        clear a2
        go_wp2
        first | refine wp_region_pure_lit_g (by kernel_rfl) (by kernel_rfl) ?_ | refine wp_region_pure_lit (by kernel_rfl) (by kernel_rfl) ?_
        repeat (go_big_quiet_step ((fail)))
        refine wpQuiet_nil ?_
        intro _ hw'
        obtain ⟨δ1, hw''⟩ := hw'
        subst hw''
        go_wp2
        exact ⟨⟨k + 1, _, by omega, by go_num, by rw [A2.out]; rfl, rfl⟩, by simp only [intOf]; omega⟩
    · obtain rfl : k = 4 := by omega
      rw [Hc.out]
      go_wp2
      refine bodyPost_ret (v := .tuple #[.agg (wv (x + y)), .bool (decide (x + y < B256))]) ?_ rfl ⟨rfl, (by repeat (first | with_reducible exact Grew.refl _ | with_reducible apply Grew.alloc | with_reducible apply Grew.grow | with_reducible apply Grew.drew | with_reducible apply Grew.drewN))⟩
      simp [results, Try.results36, go_sem]
      rw [Bool.eq_iff_iff, beq_iff_eq, decide_eq_true_eq]
      exact Ho.out
theorem radd_w (a b : Wd) (w : World) :
    Calls Try.prog 36 #[.agg (wv a.n), .agg (wv b.n)] w fun e w' => e = .returned (.tuple #[.agg (wv (a.add b).n), .bool (a.addOk b)]) ∧ Grew w w' := by
  unfold Wd.add; rw [wv_of']; exact radd_any _ _ a.lt b.lt w
end Go.Proofs.Ytnhcamklammcdaa
/- Totals: 32 bytes, a number below 2^256, and a number: in memory. -/
namespace Go.Proofs.Ytnhcamklammcdaa
open Go.RowKit
set_option maxRecDepth 100000
set_option linter.unusedVariables false
set_option linter.unusedSimpArgs false
structure Tot where
  h : Idb
  w : Wd
  n : Int
  lo : -9223372036854775808 ≤ n
  hi : n ≤ 9223372036854775807
theorem Tot.ext' {a b : Tot} (h1 : a.h = b.h) (h2 : a.w = b.w) (h3 : a.n = b.n) : a = b := by
  cases a; cases b; cases h1; cases h2; cases h3; rfl
/-- The cells of a total. -/
def tl (h : List Nat) (w : Nat) (n : Int) : List Value := bys h ++ ((wv w).toList ++ [.int .i64 n])
def ta (h : List Nat) (w : Nat) (n : Int) : Array Value := (tl h w n).toArray
def Tot.cs (t : Tot) : List Value := tl t.h.l t.w.n t.n
def Tot.v (t : Tot) : Value := .agg (ta t.h.l t.w.n t.n)
theorem tl_len (h : List Nat) (w : Nat) (n : Int) (hh : h.length = 32) : (tl h w n).length = 37 := by simp [tl, bys_len, hh, wv_toList]
theorem Tot.cs_len (t : Tot) : t.cs.length = 37 := tl_len _ _ _ t.h.len
@[go_sem] theorem ta_size (h : List Nat) (w : Nat) (n : Int) (hh : h.length = 32) : (ta h w n).size = 37 := by unfold ta; simpa using tl_len h w n hh
theorem tl_one (h : List Nat) (w : Nat) (n : Int) : (ta h w n).all (·.oneCell') = true := by
  rw [Array.all_eq_true_iff_forall_mem]
  intro v hv
  simp only [ta, tl, List.mem_toArray, List.mem_append, wv_toList, bys, List.mem_map, List.mem_cons, List.not_mem_nil, or_false] at hv
  rcases hv with ⟨c, _, rfl⟩ | (rfl | rfl | rfl | rfl) | rfl <;> rfl
theorem tl_h (h : List Nat) (w : Nat) (n : Int) (hh : h.length = 32) : (tl h w n).take 32 = bys h := by
  unfold tl; rw [List.take_left' (by rw [bys_len, hh])]
theorem tl_w (h : List Nat) (w : Nat) (n : Int) (hh : h.length = 32) : ((tl h w n).drop 32).take 4 = (wv w).toList := by
  unfold tl; rw [List.drop_left' (by rw [bys_len, hh]), List.take_left' (by rfl)]
theorem tl_n (h : List Nat) (w : Nat) (n : Int) (hh : h.length = 32) : (tl h w n)[36]? = some (.int .i64 n) := by
  unfold tl
  rw [List.getElem?_append_right (by rw [bys_len, hh]; omega), bys_len, hh]
  rfl
@[go_sem] theorem ta_n (h : List Nat) (w : Nat) (n : Int) (hh : h.length = 32) : (ta h w n)[36]? = some (.int .i64 n) := by
  unfold ta; simpa using tl_n h w n hh
def tot0 : Tot := ⟨Idb.zero, Wd.zero, 0, by decide, by decide⟩
theorem rowType_tot : Try.prog.rowType 29 37 = true := by kernel_rfl
theorem zero_tot : (Try.prog.info? 29).map (·.zero) = some (some (.agg (ta id0 0 0))) := by kernel_rfl
theorem size_tot : (Try.prog.info? 29).map (·.size) = some 37 := by kernel_rfl
theorem size_wide : (Try.prog.info? 27).map (·.size) = some 4 := by kernel_rfl
theorem under_tot : Try.prog.underlying 29 = some (.struct (Try.prog.fieldsOf 29)) := by kernel_rfl
theorem under_wide : Try.prog.underlying 27 = some (.array 4 25) := by kernel_rfl
section
variable (ρ : Operand → Value) (d : Option Tmp) (x y : Operand) (t : TypeId) (p : String) (a : Array Edge) (g : Option (Nat × Bool)) (w : World)
@[go_sem ↓] theorem ex_load_tot : execOp ρ ⟨d, .load 29 x, t, p, a, g⟩ = rowLoad 29 (ρ x) := rfl
@[go_sem ↓] theorem ex_store_tot : execOp ρ ⟨d, .store 29 x y, t, p, a, g⟩ = rowStore 29 (ρ x) (ρ y) := rfl
@[go_sem ↓] theorem ex_alloc_tot : execOp ρ ⟨d, .alloc 29, t, p, a, g⟩ = rowAlloc 29 := rfl
@[go_sem ↓] theorem ex_load_wide : execOp ρ ⟨d, .load 27 x, t, p, a, g⟩ = rowLoad 27 (ρ x) := rfl
@[go_sem ↓] theorem ex_store_wide : execOp ρ ⟨d, .store 27 x y, t, p, a, g⟩ = rowStore 27 (ρ x) (ρ y) := rfl
@[go_sem ↓] theorem ex_alloc_wide : execOp ρ ⟨d, .alloc 27, t, p, a, g⟩ = rowAlloc 27 := rfl
end
theorem rowType_wide : Try.prog.rowType 27 4 = true := by kernel_rfl
theorem zero_wide : (Try.prog.info? 27).map (·.zero) = some (some (.agg (wv 0))) := by kernel_rfl
@[go_sem] theorem load_tot (w : World) (g : Nat) (h : (w.rowAt g).size = 37) : (rowLoad 29 (.pointer (some ⟨g, 0, none⟩))).run Try.prog w = .ok (.value (.agg (w.rowAt g))) w := run_rowLoad w (n := 36) rowType_tot h
@[go_sem] theorem store_tot (w : World) (g : Nat) (l : List Nat) (x : Nat) (n : Int) (hl : l.length = 32) (h : (w.rowAt g).size = 37) (hf : w.rowFree g = true) : (rowStore 29 (.pointer (some ⟨g, 0, none⟩)) (.agg (ta l x n))).run Try.prog w = .ok .skip (w.setRow g (ta l x n)) := run_rowStore w (n := 37) rowType_tot hf h (ta_size l x n hl) (tl_one l x n)
@[go_sem] theorem alloc_tot (w : World) : (rowAlloc 29).run Try.prog w = .ok (.value (.pointer (some ⟨w.heap.size, 0, none⟩))) (w.alloc (.cells (ta id0 0 0) 29)) := run_rowAlloc w zero_tot
theorem wv_one (x : Nat) : (wv x).all (·.oneCell') = true := by simp [wv, Value.oneCell']
@[go_sem] theorem load_wide (w : World) (g : Nat) (h : (w.rowAt g).size = 4) : (rowLoad 27 (.pointer (some ⟨g, 0, none⟩))).run Try.prog w = .ok (.value (.agg (w.rowAt g))) w := run_rowLoad w (n := 3) rowType_wide h
@[go_sem] theorem store_wide (w : World) (g : Nat) (x : Nat) (h : (w.rowAt g).size = 4) (hf : w.rowFree g = true) : (rowStore 27 (.pointer (some ⟨g, 0, none⟩)) (.agg (wv x))).run Try.prog w = .ok .skip (w.setRow g (wv x)) := run_rowStore w (n := 4) rowType_wide hf h rfl (wv_one x)
@[go_sem] theorem alloc_wide (w : World) : (rowAlloc 27).run Try.prog w = .ok (.value (.pointer (some ⟨w.heap.size, 0, none⟩))) (w.alloc (.cells (wv 0) 27)) := run_rowAlloc w zero_wide
/-- The fields of a total that lies in a block of its own. -/
def totH (C : Array Value) : Array Value := (C.toList.take 32).toArray
def totW (C : Array Value) : Array Value := ((C.toList.drop 32).take 4).toArray
@[go_sem] theorem totH_ta (h : List Nat) (w : Nat) (n : Int) (hh : h.length = 32) : totH (ta h w n) = iv h := by
  unfold totH ta; rw [tl_h h w n hh]; rfl
@[go_sem] theorem totW_ta (h : List Nat) (w : Nat) (n : Int) (hh : h.length = 32) : totW (ta h w n) = wv w := by
  unfold totW ta; rw [tl_w h w n hh]
@[go_sem] theorem load_totH (w : World) (g : Nat) (h : (w.rowAt g).size = 37) : (rowLoad 24 (.pointer (some ⟨g, 0, none⟩))).run Try.prog w = .ok (.value (.agg (totH (w.rowAt g)))) w := by
  refine load_part (by simp [h]) fun j v hj => ?_
  have hj2 := (List.getElem?_eq_some_iff.1 hj).1
  rw [List.getElem?_take, if_pos (by simp at hj2; omega)] at hj
  rw [cell_rowAt, Nat.zero_add]
  simpa using hj
theorem load_partW {w : World} {g o : Nat} {cs : List Value} (hl : cs.length = 4) (h : w.rangeAt g o cs) : (rowLoad 27 (.pointer (some ⟨g, o, none⟩))).run Try.prog w = .ok (.value (.agg cs.toArray)) w := by
  unfold rowLoad
  rw [Sem.run_bind, run_loadAt_mid w g o 27 cs _ h under_wide rfl (by rw [hl]; exact size_wide)]
  rfl
@[go_sem] theorem load_totW (w : World) (g : Nat) (h : (w.rowAt g).size = 37) : (rowLoad 27 (.pointer (some ⟨g, 32, none⟩))).run Try.prog w = .ok (.value (.agg (totW (w.rowAt g)))) w := by
  refine load_partW (by simp [h]) fun j v hj => ?_
  have hj2 := (List.getElem?_eq_some_iff.1 hj).1
  rw [List.getElem?_take, if_pos (by simp at hj2; omega), List.getElem?_drop] at hj
  rw [cell_rowAt]
  simpa using hj
/-- A total out of the middle of a block. -/
theorem load_totm {w : World} {b o : Nat} {x : Tot} (h : w.rangeAt b o x.cs) : (rowLoad 29 (.pointer (some ⟨b, o, none⟩))).run Try.prog w = .ok (.value x.v) w := by
  unfold rowLoad
  rw [Sem.run_bind, run_loadAt_mid w b o 29 x.cs _ h under_tot rfl (by rw [x.cs_len]; exact size_tot)]
  rfl
/-- A total is built. -/
def totBuild (x y z : Value) : Sem Next := do let v ← Instr.build 29 #[(0, x), (1, y), (2, z)]; pure (.value v)
def totBuild1 (x : Value) : Sem Next := do let v ← Instr.build 29 #[(0, x)]; pure (.value v)
section
variable (ρ : Operand → Value) (d : Option Tmp) (x y z : Operand) (t : TypeId) (p : String) (a : Array Edge) (g : Option (Nat × Bool))
@[go_sem ↓] theorem ex_totBuild : execOp ρ ⟨d, .build 29 #[(0, x), (1, y), (2, z)], t, p, a, g⟩ = totBuild (ρ x) (ρ y) (ρ z) := by simp [execOp, totBuild]
@[go_sem ↓] theorem ex_totBuild1 : execOp ρ ⟨d, .build 29 #[(0, x)], t, p, a, g⟩ = totBuild1 (ρ x) := by simp [execOp, totBuild1]
end
theorem fill_one (pl : Nat → Option (Nat × Nat)) (i off n : Nat) (v : Value) (r : List (Nat × Value)) (C : Array Value) (hp : pl i = some (off, n)) (hv : v.cells.size = n) (hC : off + n ≤ C.size) : Instr.fill pl C ((i, v) :: r) = Instr.fill pl (putAt C off v.cells.toList) r := by
  have ea : v.cells.zipIdx = (v.cells.toList.zipIdx).toArray := by cases v.cells; simp
  have h1 := foldl_set v.cells.toList 0 off C (by simp; omega)
  have h2 : (v.cells.zipIdx.foldl (fun cs (x : Value × Nat) => cs.setIfInBounds (off + x.2) x.1) C) = putAt C off v.cells.toList := by
    refine arr_ext ?_
    rw [ea, List.foldl_toArray, putAt_list _ _ _ (by simp; omega)]
    refine h1.trans ?_
    simp
  rw [Instr.fill, hp]
  simp only [hv]
  rw [if_neg (by simp; omega)]
  exact congrArg (fun Z => Instr.fill pl Z r) h2
theorem places_tot (w : World) : ((Try.prog.fieldsOf 29).mapM fun (f : Field) => (do pure (f.offset, ← sizeOf f.type) : Sem (Nat × Nat))).run Try.prog w = .ok #[(0, 32), (32, 4), (36, 1)] w := by kernel_rfl
theorem put_tot (h h' : List Nat) (w w' : Nat) (n n' : Int) (hh : h.length = 32) (hh' : h'.length = 32) :
    putAt (ta h w n) 0 (iv h').toList = ta h' w n ∧ putAt (ta h w n) 32 (wv w').toList = ta h w' n ∧ putAt (ta h w n) 36 [.int .i64 n'] = ta h w n' := by
  have hs := ta_size h w n hh
  have l1 : (bys h).length = 32 := by rw [bys_len, hh]
  have l2 : (bys h').length = 32 := by rw [bys_len, hh']
  refine ⟨arr_ext ?_, arr_ext ?_, arr_ext ?_⟩
  · rw [putAt_list _ _ _ (by rw [hs, iv_bys, l2]; omega), iv_bys, l2]
    unfold ta tl
    simp only [List.take_zero, List.nil_append, Nat.zero_add]
    rw [List.drop_left' l1]
  · rw [putAt_list _ _ _ (by rw [hs]; simp [wv_toList])]
    unfold ta tl
    simp only []
    rw [List.take_left' l1, show 32 + (wv w').toList.length = 32 + 4 from rfl, ← List.drop_drop, List.drop_left' l1, List.drop_left' (by rfl), List.append_assoc]
  · rw [putAt_list _ _ _ (by rw [hs]; simp)]
    unfold ta tl
    simp only []
    have e1 : (bys h ++ ((wv w).toList ++ [Value.int .i64 n])).take 36 = bys h ++ (wv w).toList := by
      rw [← List.append_assoc, List.take_left' (by rw [List.length_append, l1]; rfl)]
    have e2 : (bys h ++ ((wv w).toList ++ [Value.int .i64 n])).drop (36 + [Value.int .i64 n'].length) = [] := List.drop_of_length_le (by simp [l1, wv_toList])
    rw [e1, e2]
    simp
@[go_sem] theorem run_totBuild (h : List Nat) (x : Nat) (n : Int) (hh : h.length = 32) (w : World) : (totBuild (.agg (iv h)) (.agg (wv x)) (.int .i64 n)).run Try.prog w = .ok (.value (.agg (ta h x n))) w := by
  have hz : (zeroValue 29).run Try.prog w = .ok (.agg (ta id0 0 0)) w := by
    have := zero_tot
    cases hq : Try.prog.info? 29 with
    | none => rw [hq] at this; cases this
    | some i => simp [hq] at this; simp [zeroValue, typeInfo, hq, this]
  have hf : Instr.fill ((#[(0, 32), (32, 4), (36, 1)] : Array (Nat × Nat))[·]?) (ta id0 0 0) [(0, .agg (iv h)), (1, .agg (wv x)), (2, .int .i64 n)] = some (ta h x n) := by
    rw [fill_one _ 0 0 32 _ _ _ rfl (by rw [show (Value.agg (iv h)).cells = iv h from rfl, iv_size, hh]) (by rw [ta_size _ _ _ id0_len]; omega), show (Value.agg (iv h)).cells = iv h from rfl, (put_tot id0 h 0 0 0 0 id0_len hh).1]
    rw [fill_one _ 1 32 4 _ _ _ rfl rfl (by rw [ta_size _ _ _ hh]; omega), show (Value.agg (wv x)).cells = wv x from rfl, (put_tot h h 0 x 0 0 hh hh).2.1]
    rw [fill_one _ 2 36 1 _ _ _ rfl rfl (by rw [ta_size _ _ _ hh]; omega), show (Value.int .i64 n).cells.toList = [.int .i64 n] from rfl, (put_tot h h x x 0 n hh hh).2.2]
    rfl
  unfold totBuild Instr.build
  simp only [Sem.run_bind, hz, run_underlying under_tot w, Result.andThen_ok, places_tot, show (Value.agg (ta id0 0 0)).cells = ta id0 0 0 from rfl, hf, Sem.run_pure]
@[go_sem] theorem run_totBuild1 (h : List Nat) (hh : h.length = 32) (w : World) : (totBuild1 (.agg (iv h))).run Try.prog w = .ok (.value (.agg (ta h 0 0))) w := by
  have hz : (zeroValue 29).run Try.prog w = .ok (.agg (ta id0 0 0)) w := by
    have := zero_tot
    cases hq : Try.prog.info? 29 with
    | none => rw [hq] at this; cases this
    | some i => simp [hq] at this; simp [zeroValue, typeInfo, hq, this]
  have hf : Instr.fill ((#[(0, 32), (32, 4), (36, 1)] : Array (Nat × Nat))[·]?) (ta id0 0 0) [(0, .agg (iv h))] = some (ta h 0 0) := by
    rw [fill_one _ 0 0 32 _ _ _ rfl (by rw [show (Value.agg (iv h)).cells = iv h from rfl, iv_size, hh]) (by rw [ta_size _ _ _ id0_len]; omega), show (Value.agg (iv h)).cells = iv h from rfl, (put_tot id0 h 0 0 0 0 id0_len hh).1]
    rfl
  unfold totBuild1 Instr.build
  simp only [Sem.run_bind, hz, run_underlying under_tot w, Result.andThen_ok, places_tot, show (Value.agg (ta id0 0 0)).cells = ta id0 0 0 from rfl, hf, Sem.run_pure]
theorem tot_result {fn : Func} {p : Tmp} {g : Nat} {w : World} {h : List Nat} {x : Nat} {n : Int} (hr : fn.results = #[.cell p 29]) (tmps : Array Value) (hp : tmps.getD p undef = .pointer (some ⟨g, 0, none⟩)) (hw : w.rowAt g = ta h x n) (hh : h.length = 32) :
    (results fn tmps).run Try.prog w = .ok (.agg (ta h x n)) w := by
  have := run_result_row w (n := 36) hr tmps hp rowType_tot (by rw [hw, ta_size _ _ _ hh])
  rwa [hw] at this
end Go.Proofs.Ytnhcamklammcdaa
/- wide's Bytes, and the document's. -/
namespace Go.Proofs.Ytnhcamklammcdaa
set_option linter.unusedVariables false
set_option linter.unusedSimpArgs false
open Go.RowKit

/-- The id of a number. -/
theorem bytesN_lt (x : Nat) : ∀ c ∈ bytesN x, c < 256 := by
  intro c hc
  unfold bytesN at hc
  simp only [List.mem_map] at hc
  obtain ⟨i, _, rfl⟩ := hc
  exact byteN_lt x i
def Wd.id (x : Wd) : Idb := ⟨bytesN x.n, bytesN_length _, bytesN_lt _⟩

theorem shr_byte (u s : Nat) : IntKind.u8.wrap ((u : Int) / 2 ^ s) = ((u >>> s % 256 : Nat) : Int) := by
  rw [Nat.shiftRight_eq_div_pow]
  have e : ((u : Int) / 2 ^ s) = ((u / 2 ^ s : Nat) : Int) := by rw [Int.natCast_ediv, Int.natCast_pow]; rfl
  rw [e]
  show ((u / 2 ^ s : Nat) : Int) % 256 = _
  omega
set_option maxRecDepth 100000 in
set_option maxHeartbeats 1600000 in
theorem bytes_w (x : Wd) (w : World) :
    Calls Try.prog 57 #[.agg (wv x.n)] w fun e w' => e = .returned (.agg (iv x.id.l)) ∧ Grew w w' := by
  go_enter Try.func57, Try.ntmps57
  go_wp2
  go_loopw [5] (fun n wr => ∃ (k : Nat), k ≤ 32 ∧ n = .int .i64 k ∧
      wr = (((w.alloc (.cells (wv x.n) 27)).alloc (.cells (iv id0) 24)).alloc (.cells (iv (filled (byteN x.n) 32 k)) 24))) (fun n _ => 32 - (intOf n).toNat)
  case atStart => exact ⟨0, by omega, rfl, by rw [filled_zero]; rfl⟩
  case round =>
    obtain ⟨k, hk, rfl, rfl⟩ := hrel
    by_cases hn : k < 32
    · have h1 : (wv x.n)[3 - k / 8]? = some (.int .u64 (lb x.n (3 - k / 8))) := wv_at x.n (3 - k / 8) (by omega)
      have h2 := shr_byte (lb x.n (3 - k / 8)) (56 - 8 * (k % 8))
      rw [← byteN_lb x.n k hn] at h2
      have h3 : (iv (filled (byteN x.n) 32 k)).setIfInBounds k (.int .u8 (byteN x.n k : Nat)) = iv (filled (byteN x.n) 32 (k + 1)) := by rw [iv_set, filled_step]
      have h4 : (iv (filled (byteN x.n) 32 k))[k]? = some (.int .u8 (byteAt (filled (byteN x.n) 32 k) k : Nat)) := iv_at _ _ (by rw [filled_length]; exact hn)
      go_wp2
      exact ⟨⟨k + 1, by omega, by go_num, rfl⟩, by simp only [intOf]; omega⟩
    · obtain rfl : k = 32 := by omega
      have e : filled (byteN x.n) 32 32 = x.id.l := filled_all _ _
      rw [e]
      go_wp2
      exact bodyPost_ret (v := .agg (iv x.id.l)) (id_result Try.results57 _ rfl (by simp [go_sem]) x.id.len) rfl ⟨rfl, (by repeat (first | with_reducible exact Grew.refl _ | with_reducible apply Grew.alloc | with_reducible apply Grew.grow | with_reducible apply Grew.drew | with_reducible apply Grew.drewN))⟩

/-- 'n' bytes, of which the last 'k' are given by 'f' and the others are 0. -/
def rfilled (f : Nat → Nat) (n k : Nat) : List Nat := (List.range n).map fun i => if n - k ≤ i then f i else 0
theorem rfilled_length (f : Nat → Nat) (n k : Nat) : (rfilled f n k).length = n := by simp [rfilled]
theorem rfilled_zero (f : Nat → Nat) (n : Nat) : rfilled f n 0 = List.replicate n 0 := by
  apply List.ext_getElem
  · simp [rfilled]
  · intro i h1 h2
    have : i < n := by simpa [rfilled] using h1
    simp [rfilled]; omega
theorem rfilled_step (f : Nat → Nat) (n k : Nat) (h : k < n) : (rfilled f n k).set (n - 1 - k) (f (n - 1 - k)) = rfilled f n (k + 1) := by
  apply List.ext_getElem
  · simp [rfilled]
  · intro i h1 h2
    simp only [List.getElem_set, rfilled, List.getElem_map, List.getElem_range]
    by_cases hi : n - 1 - k = i
    · subst hi; rw [if_pos rfl, if_pos (by omega)]
    · rw [if_neg hi]
      by_cases h3 : n - k ≤ i
      · rw [if_pos h3, if_pos (by omega)]
      · rw [if_neg h3, if_neg (by omega)]
theorem rfilled_all (f : Nat → Nat) (n : Nat) : rfilled f n n = (List.range n).map f := by
  unfold rfilled
  apply List.map_congr_left
  intro i hi
  rw [if_pos (by omega)]
theorem byteN_rev (x i : Nat) (h : i < 32) : byteN x (31 - i) = lb x (i / 8) >>> (8 * (i % 8)) % 256 := by
  rw [byteN_lb x (31 - i) (by omega), show 3 - (31 - i) / 8 = i / 8 by omega, show 56 - 8 * ((31 - i) % 8) = 8 * (i % 8) by omega]
def shf (u j : Nat) : Nat := u >>> (8 * j)
theorem shf_zero (u : Nat) : shf u 0 = u := by simp [shf]
theorem shf_le (u j : Nat) : shf u j ≤ u := Nat.shiftRight_le _ _
theorem shf_mod (x k : Nat) (h : k < 32) : (shf (lb x (k / 8)) (k % 8) : Int) % 256 = ((byteN x (31 - k) : Nat) : Int) := by
  rw [byteN_rev x k h]; unfold shf; omega
theorem div256 (u j : Nat) : (((shf u j : Nat) : Int) / 256) = ((shf u (j + 1) : Nat) : Int) := by
  unfold shf
  rw [show 8 * (j + 1) = 8 * j + 8 by omega, Nat.shiftRight_add, Nat.shiftRight_eq_div_pow (u >>> (8 * j)) 8]
  omega
set_option maxRecDepth 100000 in
set_option maxHeartbeats 3200000 in
theorem rbytes_w (x : Wd) (w : World) :
    Calls Try.prog 59 #[.agg (wv x.n)] w fun e w' => e = .returned (.agg (iv x.id.l)) ∧ Grew w w' := by
  go_enter Try.func59, Try.ntmps59
  go_wp2
  go_loopw [4] (fun n wr => ∃ (k : Nat), k ≤ 32 ∧ n = .int .i64 k ∧
      wr = (((w.alloc (.cells (wv x.n) 27)).alloc (.cells (iv id0) 24)).alloc (.cells (iv (rfilled (byteN x.n) 32 k)) 24))) (fun n _ => 32 - (intOf n).toNat)
  case atStart => exact ⟨0, by omega, rfl, by rw [rfilled_zero]; rfl⟩
  case round =>
    obtain ⟨k, hk, rfl, rfl⟩ := hrel
    by_cases hn : k < 32
    · have h1 : (wv x.n)[k / 8]? = some (.int .u64 (lb x.n (k / 8))) := wv_at x.n (k / 8) (by omega)
      have hb := lb_lt x.n (k / 8)
      go_wp2
      go_loop [5, 6] (fun v n => ∃ j : Nat, j ≤ k % 8 ∧ n = .int .i64 j ∧ v = .int .u64 ((shf (lb x.n (k / 8)) j : Nat) : Int)) (fun _ n => k % 8 - (intOf n).toNat)
      case atStart => exact ⟨0, by omega, rfl, by rw [shf_zero]⟩
      case round =>
        obtain ⟨j, hj, rfl, rfl⟩ := hrel
        by_cases hjn : j < k % 8
        · have h2 := div256 (lb x.n (k / 8)) j
          have h3 : shf (lb x.n (k / 8)) (j + 1) < 18446744073709551616 := Nat.lt_of_le_of_lt (shf_le _ _) hb
          have hlt : decide ((j : Int) < (k : Int) % 8) = true := decide_eq_true (by omega)
          go_wp2
          exact ⟨⟨j + 1, by omega, by go_num, rfl⟩, by simp only [intOf]; omega⟩
        · obtain rfl : j = k % 8 := by omega
          have h2 := shf_mod x.n k hn
          have h3 := byteN_lt x.n (31 - k)
          have h4 : (iv (rfilled (byteN x.n) 32 k))[31 - k]? = some (.int .u8 (byteAt (rfilled (byteN x.n) 32 k) (31 - k) : Nat)) := iv_at _ _ (by rw [rfilled_length]; omega)
          have h5 : (iv (rfilled (byteN x.n) 32 k)).setIfInBounds (31 - k) (.int .u8 (byteN x.n (31 - k) : Nat)) = iv (rfilled (byteN x.n) 32 (k + 1)) := by rw [iv_set]; exact congrArg iv (rfilled_step (byteN x.n) 32 k hn)
          go_wp2
          exact ⟨⟨k + 1, by omega, by go_num, rfl⟩, by simp only [intOf]; omega⟩
    · obtain rfl : k = 32 := by omega
      have e : rfilled (byteN x.n) 32 32 = x.id.l := rfilled_all _ _
      rw [e]
      go_wp2
      exact bodyPost_ret (v := .agg (iv x.id.l)) (id_result Try.results59 _ rfl (by simp [go_sem]) x.id.len) rfl ⟨rfl, (by repeat (first | with_reducible exact Grew.refl _ | with_reducible apply Grew.alloc | with_reducible apply Grew.grow | with_reducible apply Grew.drew | with_reducible apply Grew.drewN))⟩
end Go.Proofs.Ytnhcamklammcdaa
