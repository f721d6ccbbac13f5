/- What the statements of this chapter rest on, part 4. Conditions: none. -/
import Derived.OwnWalk
import Derived.Lib.SliceRun
import Derived.Laws.BytesString
import Derived.Lib.BitFns
import Derived.Deep.Light
import Derived.Test.YtnhcamklammcdaaRows
import Derived.Test.YtnhcamklammcdaaM3
/- Slices of totals: what they show; slices.Clone; slices.Equal and the document's Same. -/
namespace Go.Proofs.Ytnhcamklammcdaa
set_option linter.unusedVariables false
set_option linter.unusedSimpArgs false
open Go.RowKit
set_option maxRecDepth 100000
abbrev ShowsT := ShowsE 37 Tot.cs
abbrev OwnT := OwnE 37 Tot.cs
theorem showsT_form {w : World} {v : Value} {ls : List Tot} (h : ShowsT w v ls) : ∃ p c, v = .slice p ls.length c := by
  rcases h with ⟨b, o, c, rfl, _⟩ | ⟨p, c, rfl, rfl⟩
  · exact ⟨_, _, rfl⟩
  · exact ⟨_, _, rfl⟩
theorem showsT_some {w : World} {p : Option Addr} {n c : Nat} {ls : List Tot} (h : ShowsT w (.slice p n c) ls) (hne : 0 < ls.length) : ∃ b o, p = some ⟨b, o, none⟩ ∧ n = ls.length ∧ ls.length ≤ c ∧ b < w.heap.size ∧ ∀ j x, ls[j]? = some x → w.rangeAt b (o + j * 37) x.cs := by
  rcases h with ⟨b, o, c', he, hc, hb, h⟩ | ⟨p', c', he, rfl⟩
  · simp only [Value.slice.injEq] at he
    exact ⟨b, o, he.1, he.2.1, he.2.2 ▸ hc, hb, h⟩
  · simp at hne
/-- A part of the totals. -/
theorem showsT_part {w : World} {b o : Nat} {ls : List Tot} (hb : b < w.heap.size) (h : ∀ j x, ls[j]? = some x → w.rangeAt b (o + j * 37) x.cs) (i n c' : Nat) (hi : i + n ≤ ls.length) (hc : n ≤ c') : ShowsT w (.slice (some ⟨b, o + i * 37, none⟩) n c') ((ls.drop i).take n) := by
  have hlen : ((ls.drop i).take n).length = n := by rw [List.length_take, List.length_drop]; omega
  refine .inl ⟨b, o + i * 37, c', by rw [hlen], by omega, hb, fun j x hj => ?_⟩
  have hj2 : j < n := by have := (List.getElem?_eq_some_iff.1 hj).1; omega
  rw [List.getElem?_take, if_pos hj2, List.getElem?_drop] at hj
  have := h (i + j) x hj
  rwa [show o + (i + j) * 37 = o + i * 37 + j * 37 by omega] at this
/-- A total's number in the middle of a block. -/
theorem range_n {w : World} {b o : Nat} {x : Tot} (h : w.rangeAt b o x.cs) : w.cell? ⟨b, o + 36, none⟩ = some (.int .i64 x.n) := h 36 _ (tl_n _ _ _ x.h.len)
theorem load_totg {w : World} {b o : Nat} {x : Tot} (h : w.rangeAt b o x.cs) (δ : Junk) : (rowLoad 29 (.pointer (some ⟨b, o, none⟩))).run Try.prog (w.grow δ) = .ok (.value x.v) (w.grow δ) := load_totm (rangeAt_grew h ⟨δ, rfl⟩)
theorem Tot.cs_one (x : Tot) : ∀ u ∈ x.cs, u.oneCell' = true := by
  have := tl_one x.h.l x.w.n x.n
  rw [Array.all_eq_true_iff_forall_mem] at this
  intro u hu
  have hu2 : u ∈ tl x.h.l x.w.n x.n := hu
  exact this u (by unfold ta; simpa using hu2)
theorem Tot.cs_arr (x : Tot) : x.cs.toArray = ta x.h.l x.w.n x.n := rfl
theorem under_ts : Try.prog.underlying 22 = some (.slice 29) := by kernel_rfl
theorem info_t : ∃ i, Try.prog.info? 29 = some i ∧ i.zero = some (.agg (ta id0 0 0)) ∧ i.size = 37 ∧ i.bytes = 72 := by
  refine ⟨_, rfl, ?_, ?_, ?_⟩ <;> kernel_rfl
theorem tot0_cells : (Value.agg (ta id0 0 0)).cells.size = 37 := ta_size _ _ _ id0_len
/-- A slice of one total is built. -/
def tslBuild (x : Value) : Sem Next := do let v ← Instr.buildSlice 22 1 #[(0, x)]; pure (.value v)
section
variable (ρ : Operand → Value) (d : Option Tmp) (x y : Operand) (t : TypeId) (p : String) (a : Array Edge) (g : Option (Nat × Bool))
@[go_sem ↓] theorem ex_tslBuild : execOp ρ ⟨d, .buildSlice 22 1 #[(0, x)], t, p, a, g⟩ = tslBuild (ρ x) := by simp [execOp, tslBuild]
end
@[go_sem] theorem run_tslBuild (h : List Nat) (x : Nat) (n : Int) (hh : h.length = 32) (w : World) : (tslBuild (.agg (ta h x n))).run Try.prog w = .ok (.value (.slice (some ⟨w.heap.size, 0, none⟩) 1 1)) (w.alloc (.cells (ta h x n) 29)) := by
  obtain ⟨i, hi, hz, hs, _⟩ := info_t
  unfold tslBuild
  rw [Sem.run_bind, run_buildSlice1 under_ts hi hz hs (ta_size _ _ _ id0_len) (ta_size _ _ _ hh) (by omega) (by omega)]
  rfl
@[go_sem] theorem eql_nil_tots (w : World) (a : Option Addr) (n c : Nat) : (binOp .eql 22 (.slice a n c) (.slice none 0 0)).run Try.prog w = .ok (.bool a.isNone) w := Lib.run_eql_slice_nil w 22 29 a n c 0 0 under_ts
set_option maxHeartbeats 3200000 in
theorem cloneT_w (ls : List Tot) (v : Value) (w : World) (hv : ShowsT w v ls) (hl : ls.length ≤ 1000000) :
    Calls Try.prog 30 #[v] w fun e w' => ∃ v', e = .returned v' ∧ OwnT w' w.heap.size 29 v' ls ∧ Grew w w' := by
  obtain ⟨i, hi, hz, hsz, hby⟩ := info_t
  obtain ⟨p, c, rfl⟩ := showsT_form hv
  have HV := Lib.hid hv
  obtain ⟨N, hN⟩ : ∃ N, ls.length = N := ⟨_, rfl⟩
  have HN := Lib.hid hN
  rw [hN] at HV ⊢
  clear hv hN
  go_enter Try.func30, Try.ntmps30
  cases p with
  | none =>
    obtain rfl : ls = [] := by
      rcases HV.out with ⟨b, o, c', h, _⟩ | ⟨_, _, _, h⟩
      · simp at h
      · exact h
    go_wp2
    go_ret
    exact ⟨_, rfl, OwnE.nil _ _ _, Grew.refl _⟩
  | some a =>
    go_wp2_with (at_builtin; refine stop_of ?_)
    unfold Stop
    have o0 := OwnE.made Tot.cs_len w w.heap.size 29 [] (Nat.le_refl _) (by simp [maxLen])
    have O0 := Lib.hid (show OwnT (w.alloc (.cells #[] 29)) w.heap.size 29 (.slice (some ⟨w.heap.size, 0, none⟩) 0 0) [] from o0)
    clear o0
    refine wpList_appendE2 Tot.cs_len (by decide) rfl _ _ _ rfl _ i _ 72 under_ts hi hz hsz hby tot0_cells Tot.cs_one w _ w.heap.size _ _ rfl rfl [] ls (by repeat (first | with_reducible exact Grew.refl _ | with_reducible apply Grew.alloc | with_reducible apply Grew.grow | with_reducible apply Grew.drew | with_reducible apply Grew.drewN)) (Nat.le_refl _) (by simp) (by exact O0.out) (by exact HV.out.grew (by repeat (first | with_reducible exact Grew.refl _ | with_reducible apply Grew.alloc | with_reducible apply Grew.grow | with_reducible apply Grew.drew | with_reducible apply Grew.drewN))) (by have := HN.out; simp [maxLen]; omega) (by have := HN.out; simp; omega) ?_
    intro v' w' ho' hg'
    rw [List.nil_append] at ho'
    have HO := Lib.hid ho'
    have HG := Lib.hid hg'
    clear ho' hg'
    go_wp2
    go_ret
    exact ⟨_, rfl, HO.out, HG.out⟩
/-- Are two totals the same? -/
def Tot.eq (a b : Tot) : Bool := ieq a.h.l b.h.l && weq a.w.n b.w.n && decide (a.n = b.n)
theorem Tot.eq_iff (a b : Tot) : Tot.eq a b = true ↔ a = b := by
  unfold Tot.eq ieq
  rw [Wd.weq, Bool.and_eq_true, Bool.and_eq_true, decide_eq_true_eq, decide_eq_true_eq, decide_eq_true_eq]
  constructor
  · rintro ⟨⟨h1, h2⟩, h3⟩
    exact Tot.ext' (Idb.ext' h1) (Wd.ext' h2) h3
  · rintro rfl
    exact ⟨⟨rfl, rfl⟩, rfl⟩
theorem fields_tot : (Try.prog.fieldsOf 29).toList.map (fun f => (f.name, f.type, f.offset)) = [("H", 24, 0), ("W", 27, 32), ("N", 3, 36)] := by kernel_rfl
theorem part_id (h : List Nat) (x : Nat) (n : Int) (hh : h.length = 32) (w : World) : (part 24 (ta h x n) 0).run Try.prog w = .ok (.agg (iv h)) w := by
  have hs : (sizeOf 24).run Try.prog w = .ok 32 w := by
    have := size_id
    cases hq : Try.prog.info? 24 with
    | none => rw [hq] at this; cases this
    | some i => simp [hq] at this; simp [sizeOf, typeInfo, hq, this]
  have ha : (isAgg 24).run Try.prog w = .ok true w := by unfold isAgg; rw [Sem.run_bind, run_underlying under_id w]; rfl
  have he : (ta h x n).extract 0 (0 + 32) = iv h := by
    refine arr_ext ?_
    rw [Array.toList_extract]
    have := tl_h h x n hh
    rw [iv_bys]
    simpa [ta, List.extract_eq_take_drop] using this
  simp [part, Sem.run_bind, ha, hs, he]
theorem part_wide (h : List Nat) (x : Nat) (n : Int) (hh : h.length = 32) (w : World) : (part 27 (ta h x n) 32).run Try.prog w = .ok (.agg (wv x)) w := by
  have hs : (sizeOf 27).run Try.prog w = .ok 4 w := by
    have := size_wide
    cases hq : Try.prog.info? 27 with
    | none => rw [hq] at this; cases this
    | some i => simp [hq] at this; simp [sizeOf, typeInfo, hq, this]
  have ha : (isAgg 27).run Try.prog w = .ok true w := by unfold isAgg; rw [Sem.run_bind, run_underlying under_wide w]; rfl
  have he : (ta h x n).extract 32 (32 + 4) = wv x := by
    refine arr_ext ?_
    rw [Array.toList_extract]
    have := tl_w h x n hh
    simpa [ta, List.extract_eq_take_drop] using this
  simp [part, Sem.run_bind, ha, hs, he]
theorem part_n (h : List Nat) (x : Nat) (n : Int) (hh : h.length = 32) (w : World) : (part 3 (ta h x n) 36).run Try.prog w = .ok (.int .i64 n) w := by
  have ha : (isAgg 3).run Try.prog w = .ok false w := by unfold isAgg; rw [Sem.run_bind, run_underlying Try.underlying3 w]; rfl
  simp [part, Sem.run_bind, ha, ta_n h x n hh]
theorem equal_idD (d : Nat) (a b : List Nat) (ha : a.length = 32) (hb : b.length = 32) (w : World) : (Op.equalIn (d + 2) 24 (.agg (iv a)) (.agg (iv b))).run Try.prog w = .ok (ieq a b) w := by
  have e : ∀ l : List Nat, iv l = ((l.map fun (c : Nat) => (c : Int)).map (Value.int .u8)).toArray := fun l => by simp [iv]
  rw [e, e, run_equalIn_ints w d under_id Try.underlying5 (by kernel_rfl) _ _ (by simp [ha]) (by simp [hb])]
  congr 1
  unfold ieq
  rw [Bool.eq_iff_iff, decide_eq_true_eq, decide_eq_true_eq]
  constructor
  · intro h
    refine (List.map_inj_right ?_).1 h
    intro x y e
    omega
  · intro h; rw [h]
theorem equal_wideD (d : Nat) (a b : Nat) (w : World) : (Op.equalIn (d + 2) 27 (.agg (wv a)) (.agg (wv b))).run Try.prog w = .ok (weq a b) w := by
  rw [cells_wide, cells_wide, run_equalIn_ints w d Try.underlying27 Try.underlying25 (by kernel_rfl) _ _ rfl rfl]
  congr 1
  unfold weq
  rw [Bool.eq_iff_iff, decide_eq_true_eq, decide_eq_true_eq]
  constructor
  · intro h
    simp only [List.cons.injEq, and_true] at h
    exact lb_inj (by omega) (by omega) (by omega) (by omega)
  · intro h
    obtain ⟨h0, h1, h2, h3⟩ := lb_congr h
    rw [h0, h1, h2, h3]
theorem held_tot : Try.prog.stoodInHeld 29 = false := by kernel_rfl
theorem equal_tot (a b : Tot) (w : World) : (Op.equalIn 10000 29 (.agg (ta a.h.l a.w.n a.n)) (.agg (ta b.h.l b.w.n b.n))).run Try.prog w = .ok (Tot.eq a b) w := by
  have ha := a.h.len
  have hb := b.h.len
  have hf := fields_tot
  rw [show (10000 : Nat) = 9999 + 1 from rfl, run_equalIn_struct w 9999 29 _ _ under_tot held_tot]
  obtain ⟨fs, hfs⟩ : ∃ fs, (Try.prog.fieldsOf 29).toList = fs := ⟨_, rfl⟩
  rw [hfs] at hf ⊢
  match fs, hf with
  | [f0, f1, f2], hf =>
    simp only [List.map_cons, List.map_nil, List.cons.injEq, Prod.mk.injEq, and_true] at hf
    obtain ⟨⟨n0, t0, o0⟩, ⟨n1, t1, o1⟩, ⟨n2, t2, o2⟩⟩ := hf
    have e3 : (Op.equalIn 9999 3 (.int .i64 a.n) (.int .i64 b.n)).run Try.prog w = .ok (decide (a.n = b.n)) w := by
      rw [show (9999 : Nat) = 9998 + 1 from rfl, run_equalIn_int w 9998 3 .i64 .i64 a.n b.n Try.underlying3]
      congr 1
    simp only [Op.eqFields, n0, n1, n2, t0, t1, t2, o0, o1, o2, Sem.run_bind, ne_eq, String.reduceEq, not_false_eq_true, if_true, part_id _ _ _ ha, part_id _ _ _ hb, part_wide _ _ _ ha, part_wide _ _ _ hb, part_n _ _ _ ha, part_n _ _ _ hb, Result.andThen_ok,
      equal_idD 9997 _ _ ha hb, equal_wideD 9997, e3]
    unfold Tot.eq
    have e2 := equal_wideD 9997 a.w.n b.w.n w
    cases h1 : ieq a.h.l b.h.l
    · simp
    · simp only [Bool.not_true, Bool.false_eq_true, if_false, Sem.run_bind, part_wide _ _ _ ha, part_wide _ _ _ hb, Result.andThen_ok, e2, Bool.true_and]
      cases h2 : weq a.w.n b.w.n
      · simp
      · simp only [Bool.not_true, Bool.false_eq_true, if_false, Sem.run_bind, part_n _ _ _ ha, part_n _ _ _ hb, Result.andThen_ok, e3, Bool.true_and]
        cases decide (a.n = b.n) <;> simp
end Go.Proofs.Ytnhcamklammcdaa
/- The document's pow, turn and numbers. -/
namespace Go.Proofs.Ytnhcamklammcdaa
set_option linter.unusedVariables false
set_option linter.unusedSimpArgs false
open Go.RowKit
set_option maxRecDepth 100000
/-- The cells of words. -/
def wsl (l : List (BitVec 32)) : List Value := l.map fun x => Value.int .u32 (u x)
theorem wsl_len (l : List (BitVec 32)) : (wsl l).length = l.length := by simp [wsl]
theorem wsl_append (l m : List (BitVec 32)) : wsl (l ++ m) = wsl l ++ wsl m := by simp [wsl]
theorem wsl_one (l : List (BitVec 32)) : ∀ x ∈ wsl l, x.oneCell' = true := by
  intro x hx
  obtain ⟨c, _, rfl⟩ := List.mem_map.1 hx
  rfl
theorem wsl_at (l : List (BitVec 32)) (i : Nat) (h : i < (wsl l).length) : (wsl l)[i] = .int .u32 (u (wordAt l i)) := by
  rw [wordAt_eq l i (by rwa [wsl_len] at h)]; simp [wsl]
theorem under_ws : Try.prog.underlying 44 = some (.slice 75) := by kernel_rfl
set_option maxRecDepth 100000 in
theorem info_w : ∃ i, Try.prog.info? 75 = some i ∧ i.zero = some (.int .u32 0) ∧ i.size = 1 ∧ i.bytes = 4 := by
  refine ⟨_, rfl, ?_, ?_, ?_⟩ <;> kernel_rfl
set_option maxRecDepth 100000 in
set_option maxHeartbeats 1600000 in
theorem rpow_w (n : Nat) (hn : n < 32) (w : World) :
    Calls Try.prog 76 #[.int .i64 (n : Int)] w fun e w' => e = .returned (.int .u32 ((2 ^ n : Nat) : Int)) ∧ Grew w w' := by
  go_enter Try.func76, Try.ntmps76
  go_wp2
  go_loopw [4, 3] (fun i p wr => ∃ k : Nat, k ≤ n ∧ i = .int .i64 k ∧ p = .int .u32 ((2 ^ k : Nat) : Int) ∧ wr = w) (fun i _ _ => n - (intOf i).toNat)
  case atStart => exact ⟨0, by omega, rfl, rfl, rfl⟩
  case round =>
    obtain ⟨k, hk, rfl, rfl, rfl⟩ := hrel
    by_cases h : k < n
    · have hlt : (k : Int) < (n : Int) := by omega
      have hp : 2 ^ (k + 1) ≤ 2 ^ 31 := Nat.pow_le_pow_right (by omega) (by omega)
      have hs : 2 ^ (k + 1) = 2 * 2 ^ k := by rw [Nat.pow_succ]; omega
      obtain ⟨a, ha⟩ : ∃ a, 2 ^ k = a := ⟨_, rfl⟩
      rw [ha] at hs ⊢
      have e6 : IntKind.u32.wrap (2 * (a : Int)) = ((2 ^ (k + 1) : Nat) : Int) := by
        rw [hs] at hp ⊢
        show (2 * (a : Int)) % 4294967296 = _
        omega
      clear hk h hp hs ha
      go_wp2
      exact ⟨⟨k + 1, by omega, by go_num, rfl, trivial⟩, by simp only [intOf]; omega⟩
    · obtain rfl : k = n := by omega
      have hge : ¬ ((k : Int) < (k : Int)) := by omega
      clear hk h hn
      go_wp2
      go_ret
      exact ⟨rfl, Grew.refl _⟩
theorem turn_u (x : BitVec 32) (n : Nat) (h1 : 1 ≤ n) (h2 : n < 32) : IntKind.u32.wrap (u x / ((2 ^ n : Nat) : Int) + IntKind.u32.wrap (u x * ((2 ^ (32 - n) : Nat) : Int))) = u (rr n x) := by
  have hr := rot_u x (32 - n) (by omega)
  rw [show 32 - (32 - n) = n by omega] at hr
  rw [Int.natCast_pow, Int.natCast_pow]
  show IntKind.u32.wrap (u x / 2 ^ n + IntKind.u32.wrap (u x * 2 ^ (32 - n))) = u (x.rotateLeft (32 - n))
  rw [← hr]
  have hx := u_bd x
  obtain ⟨a, ha⟩ : ∃ a : Nat, u x = a := ⟨x.toNat, rfl⟩
  rw [ha] at hx ⊢
  have e1 : IntKind.u32.wrap ((a : Int) * 2 ^ (32 - n)) = ((a % 2 ^ n * 2 ^ (32 - n) : Nat) : Int) := by
    show ((a : Int) * 2 ^ (32 - n)) % 4294967296 = _
    have hpp : 2 ^ n * 2 ^ (32 - n) = 4294967296 := by rw [← Nat.pow_add, show n + (32 - n) = 32 by omega]
    have hm : (a * 2 ^ (32 - n)) % (2 ^ n * 2 ^ (32 - n)) = a % 2 ^ n * 2 ^ (32 - n) := Nat.mul_mod_mul_right _ _ _
    rw [hpp] at hm
    rw [← hm, Int.natCast_emod, Int.natCast_mul, Int.natCast_pow]
    rfl
  have e2 : (a : Int) / 2 ^ n = ((a / 2 ^ n : Nat) : Int) := by rw [Int.natCast_ediv, Int.natCast_pow]; rfl
  have hpp : 2 ^ n * 2 ^ (32 - n) = 4294967296 := by rw [← Nat.pow_add, show n + (32 - n) = 32 by omega]
  have hq1 : a / 2 ^ n < 2 ^ (32 - n) := by
    rw [Nat.div_lt_iff_lt_mul (Nat.pow_pos (by omega)), Nat.mul_comm, hpp]; omega
  have hq2 : a % 2 ^ n * 2 ^ (32 - n) + 2 ^ (32 - n) ≤ 4294967296 := by
    have := Nat.mul_le_mul_right (2 ^ (32 - n)) (show a % 2 ^ n + 1 ≤ 2 ^ n from Nat.mod_lt _ (Nat.pow_pos (by omega)))
    rw [hpp, Nat.add_mul, Nat.one_mul] at this
    exact this
  rw [e1, e2]
  have hor := or_add (a % 2 ^ n) (a / 2 ^ n) (32 - n) hq1
  obtain ⟨p, hp⟩ : ∃ p, a % 2 ^ n * 2 ^ (32 - n) = p := ⟨_, rfl⟩
  obtain ⟨q, hq⟩ : ∃ q, a / 2 ^ n = q := ⟨_, rfl⟩
  obtain ⟨r, hr2⟩ : ∃ r, 2 ^ (32 - n) = r := ⟨_, rfl⟩
  rw [hp, hq] at hor
  rw [hp, hq]
  rw [hp, hr2] at hq2
  rw [hq, hr2] at hq1
  have hr3 : 0 < r := by rw [← hr2]; exact Nat.pow_pos (by omega)
  have hr4 : r ≤ 4294967296 := by omega
  rw [or_u32_nat _ _ (by omega) (by omega), hor]
  show ((q : Int) + (p : Int)) % 4294967296 = _
  omega
set_option maxRecDepth 100000 in
set_option maxHeartbeats 1600000 in
theorem rturn_w (x : BitVec 32) (n : Nat) (h1 : 1 ≤ n) (h2 : n < 32) (w : World) :
    Calls Try.prog 72 #[.int .u32 (u x), .int .i64 (n : Int)] w fun e w' => e = .returned (.int .u32 (u (rr n x))) ∧ Grew w w' := by
  have ht := turn_u x n h1 h2
  have hc : (32 : Int) - (n : Int) = ((32 - n : Nat) : Int) := by omega
  have p1 := fun w => rpow_w n h2 w
  have p2 := fun w => rpow_w (32 - n) (by omega) w
  obtain ⟨a, ha⟩ : ∃ a : Nat, 2 ^ n = a := ⟨_, rfl⟩
  obtain ⟨b, hb⟩ : ∃ b : Nat, 2 ^ (32 - n) = b := ⟨_, rfl⟩
  obtain ⟨m, hm⟩ : ∃ m : Nat, 32 - n = m := ⟨_, rfl⟩
  have ha1 : 1 ≤ a := by rw [← ha]; exact Nat.one_le_two_pow
  have ha2 : (a : Int) ≠ 0 := by omega
  have ha3 : 1 ≤ (a : Int) := by omega
  have hx := u_bd x
  have hx1 := hx.1
  have hx2 : u x ≤ 4294967295 := by omega
  rw [hm] at hc p2
  rw [ha] at p1 ht
  rw [hm] at hb
  rw [hm, hb] at ht
  rw [hb] at p2
  have ht' : (u x / (a : Int) + u x * (b : Int) % 4294967296) % 4294967296 = u (rr n x) := ht
  have P1 := Lib.hid p1
  have P2 := Lib.hid p2
  clear p1 p2 ha hb hm h1 h2 hx ha1 ht
  go_enter Try.func72, Try.ntmps72
  go_wp2
  refine wp_region_flow (by kernel_rfl) ?_
  intro δf
  apply wpFlow_quiets [0,1,2,3,4,5,6] (by decide +kernel) (by decide +kernel) (by kernel_rfl) (by intro _ _ _ d _ h; cases d <;> exact h) _
  · intro A hA δ'
    simp only [pickOps_cons, pickOps_nil, pick1_zero, pick1_succ]
    repeat (go_big_quiet_step ((go_at_call 76; exact Calls.pure_of_g3 (P1.out _))))
    exact wpQuiet_nil hA.out.symm
  clear P1
  apply wpFlow_quiets [7,8,9,10] (by decide +kernel) (by decide +kernel) (by kernel_rfl) (by intro _ _ _ d _ h; cases d <;> exact h) _
  · intro A hA δ'
    simp only [pickOps_cons, pickOps_nil, pick1_zero, pick1_succ]
    repeat (go_big_quiet_step ((go_at_call 76; exact Calls.pure_of_g3 (P2.out _))))
    exact wpQuiet_nil hA.out.symm
  refine wpFlow_end (by decide +kernel) (by kernel_rfl) ?_
  intro δf
  go_wp2
  go_ret
  exact ⟨congrArg (fun z => Ending.returned (.int .u32 z)) ht', (by repeat (first | with_reducible exact Grew.refl _ | with_reducible apply Grew.alloc | with_reducible apply Grew.grow | with_reducible apply Grew.drew | with_reducible apply Grew.drewN))⟩
theorem rturn_i (x : BitVec 32) (n : Int) (hn : rotI n = true) (w : World) :
    Calls Try.prog 72 #[.int .u32 (u x), .int .i64 n] w fun e w' => e = .returned (.int .u32 (u (rr n.toNat x))) ∧ Grew w w' := by
  have h := of_decide_eq_true hn
  obtain ⟨m, rfl⟩ : ∃ m : Nat, n = m := ⟨n.toNat, by omega⟩
  exact rturn_w x m (by omega) (by omega) w
end Go.Proofs.Ytnhcamklammcdaa
/- The document's numbers, words. -/
namespace Go.Proofs.Ytnhcamklammcdaa
set_option linter.unusedVariables false
set_option linter.unusedSimpArgs false
open Go.RowKit
theorem wsl_get (l : List (BitVec 32)) (i : Nat) (h : i < l.length) : (wsl l)[i]? = some (.int .u32 (u (wordAt l i))) := by rw [wordAt_eq l i h]; simp [wsl, h]
theorem be32_sum (a b c d : Nat) (ha : a < 256) (hb : b < 256) (hc : c < 256) (hd : d < 256) : (16777216 : Int) * a + 65536 * b + 256 * c + d = u (be32 a b c d) := by
  unfold u be32
  rw [BitVec.toNat_ofNat]
  omega
set_option maxRecDepth 100000 in
set_option maxHeartbeats 3200000 in
theorem rwords_w (l : List Nat) (hl : ∀ c ∈ l, c < 256) (bB o c : Nat) (w : World) (hb : ∀ j, j < 64 → w.cell? ⟨bB, o + j, none⟩ = some (.int .u8 (byteAt l j : Nat))) :
    Calls Try.prog 64 #[.slice (some ⟨bB, o, none⟩) 64 c] w fun e w' => ∃ v, e = .returned v ∧ OwnR w' w.heap.size 75 v (wsl (sched l 64)) ∧ Grew w w' := by
  obtain ⟨iw, hi, hz, hsz, hby⟩ := info_w
  have l2 : bB < w.heap.size := World.block_lt_of_cell? w _ (hb 0 (by omega))
  have HB := Lib.hid hb
  have HL := Lib.hid (fun i => byteAt_lt l hl i)
  clear hb hl
  go_enter Try.func64, Try.ntmps64
  go_wp2
  go_loopw [4, 3] (fun n v wr => ∃ k : Nat, k ≤ 16 ∧ n = .int .i64 k ∧ OwnR wr w.heap.size 75 v (wsl (sched l k)) ∧ Grew w wr) (fun n _ _ => 16 - (intOf n).toNat)
  case atStart => exact ⟨0, by omega, rfl, OwnR.nil _ _ _, Grew.refl _⟩
  case round =>
    obtain ⟨k, hk, rfl, ho, hg⟩ := hrel
    have HO := Lib.hid ho
    have HG := Lib.hid hg
    have hsz0 := hg.size
    clear ho hg
    by_cases hn : k < 16
    · have hlt : (k : Int) < 16 := by omega
      have c0 := HG.out.cell (HB.out (4 * k) (by omega))
      have c1 := HG.out.cell (HB.out (4 * k + 1) (by omega))
      have c2 := HG.out.cell (HB.out (4 * k + 2) (by omega))
      have c3 := HG.out.cell (HB.out (4 * k + 3) (by omega))
      have a0 := HL.out (4 * k)
      have a1 := HL.out (4 * k + 1)
      have a2 := HL.out (4 * k + 2)
      have a3 := HL.out (4 * k + 3)
      have o4 := be32_sum _ _ _ _ a0 a1 a2 a3
      have hlw : bB < wr.heap.size := by omega
      have hsl : (wsl (sched l k)).length = k := by rw [wsl_len, sched_len]
      have hnext : wsl (sched l (k + 1)) = wsl (sched l k) ++ [.int .u32 (u (be32 (byteAt l (4 * k)) (byteAt l (4 * k + 1)) (byteAt l (4 * k + 2)) (byteAt l (4 * k + 3))))] := by
        rw [sched, if_pos hn, wsl_append]; rfl
      obtain ⟨y0, hy0⟩ : ∃ y, byteAt l (4 * k) = y := ⟨_, rfl⟩
      obtain ⟨y1, hy1⟩ : ∃ y, byteAt l (4 * k + 1) = y := ⟨_, rfl⟩
      obtain ⟨y2, hy2⟩ : ∃ y, byteAt l (4 * k + 2) = y := ⟨_, rfl⟩
      obtain ⟨y3, hy3⟩ : ∃ y, byteAt l (4 * k + 3) = y := ⟨_, rfl⟩
      rw [hy0] at c0 a0
      rw [hy1] at c1 a1
      rw [hy2] at c2 a2
      rw [hy3] at c3 a3
      rw [hy0, hy1, hy2, hy3] at o4 hnext
      obtain ⟨z, hzz⟩ : ∃ z, be32 y0 y1 y2 y3 = z := ⟨_, rfl⟩
      rw [hzz] at o4 hnext
      have HN := Lib.hid hnext
      clear hy0 hy1 hy2 hy3 hzz hnext hk hn
      go_wp2
      refine wp_region_flowX [35,36] (by kernel_rfl) ?_
      intro δf
      apply wpFlowX_quiets [0,1,2,3,4,5,6,7,8,9,10,11,12,13,14,15,16,17,18,19,20,21,22,23,24,25,26,27,28,29,30,31,32,33] (by decide +kernel) (by decide +kernel) (by kernel_rfl) (by intro _ _ _ d _ h; cases d <;> exact h) _
      · intro A hA δ'
        simp only [pickOps_cons, pickOps_nil, pick1_zero, pick1_succ]
        repeat (go_big_quiet_step ((fail)))
        exact wpQuiet_nil hA.out.symm
      refine wpFlowX_one 34 (by decide +kernel) (by kernel_rfl) (by decide +kernel) (by decide +kernel) ?_
      simp only [pickOps_cons, pickOps_nil, pick1_zero, pick1_succ]
      intro δf
      go_wp2_with (fail)
      refine ⟨(by first | assumption | (simp only [grow_grow, Array.append_assoc]; assumption) | exact Grew.refl _ | (simp only [grow_grow, Array.append_assoc]; exact (by repeat (first | with_reducible exact Grew.refl _ | with_reducible apply Grew.alloc | with_reducible apply Grew.grow | with_reducible apply Grew.drew | with_reducible apply Grew.drewN))) | exact (by repeat (first | with_reducible exact Grew.refl _ | with_reducible apply Grew.alloc | with_reducible apply Grew.grow | with_reducible apply Grew.drew | with_reducible apply Grew.drewN))), ?_⟩
      refine wpFlowX_esc 35 (by decide +kernel) (by kernel_rfl) (by decide +kernel) (by decide +kernel) ?_
      simp only [pickOps_cons, pickOps_nil, pick1_zero, pick1_succ]
      intro δf
      refine wpList_appends rfl _ _ _ rfl _ iw _ 4 under_ws hi hz hsz hby rfl w _ _ _ rfl rfl _ [.int .u32 (u z)] (HG.out.trans (by repeat (first | with_reducible exact Grew.refl _ | with_reducible apply Grew.alloc | with_reducible apply Grew.grow | with_reducible apply Grew.drew | with_reducible apply Grew.drewN))) (HO.out.grew (by repeat (first | with_reducible exact Grew.refl _ | with_reducible apply Grew.alloc | with_reducible apply Grew.grow | with_reducible apply Grew.drew | with_reducible apply Grew.drewN))) (by first | exact (shows_one_g _ _ _ _ _).grew (by repeat (first | with_reducible exact Grew.refl _ | with_reducible apply Grew.alloc | with_reducible apply Grew.grow | with_reducible apply Grew.drew | with_reducible apply Grew.drewN)) | exact (shows_one_g2 _ _ _ _ _ _).grew (by repeat (first | with_reducible exact Grew.refl _ | with_reducible apply Grew.alloc | with_reducible apply Grew.grow | with_reducible apply Grew.drew | with_reducible apply Grew.drewN))) (by simp [Value.oneCell']) (by rw [hsl]; simp only [maxLen, List.length_cons, List.length_nil]; omega) (by rw [hsl]; simp only [List.length_cons, List.length_nil]; omega) ?_
      intro v' w2' ho' hg'
      rw [← HN.out] at ho'
      refine wpList_nil_then ?_
      refine wpAny_one 36 (by decide +kernel) (by kernel_rfl) (by decide +kernel) ?_
      simp only [pickOps_cons, pickOps_nil, pick1_zero, pick1_succ]
      go_wp2_with (fail)
      refine wpAny_end (by decide +kernel) (by kernel_rfl) ?_
      go_wp2
      exact ⟨⟨k + 1, by omega, by go_num, ho', hg'⟩, by simp only [intOf]; omega⟩
    · obtain rfl : k = 16 := by omega
      clear hk hn
      go_wp2
      go_loopw [5, 3] (fun n v wr2 => ∃ k : Nat, 16 ≤ k ∧ k ≤ 64 ∧ n = .int .i64 k ∧ OwnR wr2 w.heap.size 75 v (wsl (sched l k)) ∧ Grew w wr2) (fun n _ _ => 64 - (intOf n).toNat)
      case atStart => exact ⟨16, by omega, by omega, rfl, HO.out, HG.out⟩
      case round =>
        clear HO HG
        obtain ⟨k, hk0, hk, rfl, ho, hg⟩ := hrel
        have HO := Lib.hid ho
        have HG := Lib.hid hg
        have hsz1 := hg.size
        clear hsz0
        clear ho hg
        by_cases hn : k < 64
        · have hlt : (k : Int) < 64 := by omega
          have hsl : (wsl (sched l k)).length = k := by rw [wsl_len, sched_len]
          obtain ⟨g, cap, hv, hgb, hgs, hgc, hgm, hcell⟩ := own_form HO.out (by omega)
          rw [hsl] at hv hgc hcell
          subst hv
          have d1 := hcell (k - 15) (by omega)
          have d2 := hcell (k - 2) (by omega)
          have d3 := hcell (k - 16) (by omega)
          have d4 := hcell (k - 7) (by omega)
          rw [wsl_get _ _ (by rw [sched_len]; omega)] at d1 d2 d3 d4
          have hnext : wsl (sched l (k + 1)) = wsl (sched l k) ++ [.int .u32 (u (schedN (sched l k) k))] := by
            rw [sched, if_neg (by omega), wsl_append]; rfl
          unfold schedN at hnext
          obtain ⟨x1, hx1⟩ : ∃ y, wordAt (sched l k) (k - 15) = y := ⟨_, rfl⟩
          obtain ⟨x2, hx2⟩ : ∃ y, wordAt (sched l k) (k - 2) = y := ⟨_, rfl⟩
          obtain ⟨x3, hx3⟩ : ∃ y, wordAt (sched l k) (k - 16) = y := ⟨_, rfl⟩
          obtain ⟨x4, hx4⟩ : ∃ y, wordAt (sched l k) (k - 7) = y := ⟨_, rfl⟩
          rw [hx1] at d1
          rw [hx2] at d2
          rw [hx3] at d3
          rw [hx4] at d4
          rw [hx1, hx2, hx3, hx4] at hnext
          have hsum : x3 + x4 + (rr 7 x1 ^^^ rr 18 x1 ^^^ x1 >>> 3) + (rr 17 x2 ^^^ rr 19 x2 ^^^ x2 >>> 10) = x3 + (rr 7 x1 ^^^ rr 18 x1 ^^^ x1 >>> 3) + x4 + (rr 17 x2 ^^^ rr 19 x2 ^^^ x2 >>> 10) := by
            rw [BitVec.add_assoc x3 x4, BitVec.add_comm x4, ← BitVec.add_assoc]
          rw [hsum] at hnext
          have HN := Lib.hid hnext
          have i1 : (k : Int) - 15 = ((k - 15 : Nat) : Int) := by omega
          have i2 : (k : Int) - 2 = ((k - 2 : Nat) : Int) := by omega
          have i3 : (k : Int) - 16 = ((k - 16 : Nat) : Int) := by omega
          have i4 : (k : Int) - 7 = ((k - 7 : Nat) : Int) := by omega
          have j1 : ((k - 15 : Nat) : Int) < (k : Int) := by omega
          have j2 : ((k - 2 : Nat) : Int) < (k : Int) := by omega
          have j3 : ((k - 16 : Nat) : Int) < (k : Int) := by omega
          have j4 : ((k - 7 : Nat) : Int) < (k : Int) := by omega
          obtain ⟨n1, hn1⟩ : ∃ n, k - 15 = n := ⟨_, rfl⟩
          obtain ⟨n2, hn2⟩ : ∃ n, k - 2 = n := ⟨_, rfl⟩
          obtain ⟨n3, hn3⟩ : ∃ n, k - 16 = n := ⟨_, rfl⟩
          obtain ⟨n4, hn4⟩ : ∃ n, k - 7 = n := ⟨_, rfl⟩
          rw [hn1] at d1 i1 j1
          rw [hn2] at d2 i2 j2
          rw [hn3] at d3 i3 j3
          rw [hn4] at d4 i4 j4
          have hkI : (k : Int) ≤ 64 := by omega
          have hkl : k < 64 := hn
          have bx1 := (u_bd x1).1
          have bx2 := (u_bd x2).1
          have by1 : u x1 ≤ 4294967295 := by have := (u_bd x1).2; omega
          have by2 : u x2 ≤ 4294967295 := by have := (u_bd x2).2; omega
          clear hn1 hn2 hn3 hn4 hx1 hx2 hx3 hx4 hsum hnext hcell hk hk0 hn
          go_wp2
          first | refine wp_region_pure_lit_g (by kernel_rfl) (by kernel_rfl) ?_ | refine wp_region_pure_lit (by kernel_rfl) (by kernel_rfl) ?_
          repeat (go_big_quiet_step ((go_at_call 72; exact Calls.pure_of (rturn_i _ _ (by decide) _))))
          refine wpQuiet_nil ?_
          intro _ hw'
          obtain ⟨δ1, hw''⟩ := hw'
          subst hw''
          go_wp2
          first | refine wp_region_pure_lit_g (by kernel_rfl) (by kernel_rfl) ?_ | refine wp_region_pure_lit (by kernel_rfl) (by kernel_rfl) ?_
          repeat (go_big_quiet_step ((go_at_call 72; exact Calls.pure_of (rturn_i _ _ (by decide) _))))
          refine wpQuiet_nil ?_
          intro _ hw'
          obtain ⟨δ1, hw''⟩ := hw'
          subst hw''
          go_wp2
          refine wp_region_flowX [17,18] (by kernel_rfl) ?_
          intro δf
          apply wpFlowX_quiets [0,1,2,3,4,5,6,7,8,9,10,11,12,13,14,15] (by decide +kernel) (by decide +kernel) (by kernel_rfl) (by intro _ _ _ d _ h; cases d <;> exact h) _
          · intro A hA δ'
            simp only [pickOps_cons, pickOps_nil, pick1_zero, pick1_succ]
            repeat (go_big_quiet_step ((fail)))
            exact wpQuiet_nil hA.out.symm
          refine wpFlowX_one 16 (by decide +kernel) (by kernel_rfl) (by decide +kernel) (by decide +kernel) ?_
          simp only [pickOps_cons, pickOps_nil, pick1_zero, pick1_succ]
          intro δf
          go_wp2_with (fail)
          refine ⟨(by first | assumption | (simp only [grow_grow, Array.append_assoc]; assumption) | exact Grew.refl _ | (simp only [grow_grow, Array.append_assoc]; exact (by repeat (first | with_reducible exact Grew.refl _ | with_reducible apply Grew.alloc | with_reducible apply Grew.grow | with_reducible apply Grew.drew | with_reducible apply Grew.drewN))) | exact (by repeat (first | with_reducible exact Grew.refl _ | with_reducible apply Grew.alloc | with_reducible apply Grew.grow | with_reducible apply Grew.drew | with_reducible apply Grew.drewN))), ?_⟩
          refine wpFlowX_esc 17 (by decide +kernel) (by kernel_rfl) (by decide +kernel) (by decide +kernel) ?_
          simp only [pickOps_cons, pickOps_nil, pick1_zero, pick1_succ]
          intro δf
          refine wpList_appends rfl _ _ _ rfl _ iw _ 4 under_ws hi hz hsz hby rfl w _ _ _ rfl rfl _ [.int .u32 (u (x3 + (rr 7 x1 ^^^ rr 18 x1 ^^^ x1 >>> 3) + x4 + (rr 17 x2 ^^^ rr 19 x2 ^^^ x2 >>> 10)))] (HG.out.trans (by repeat (first | with_reducible exact Grew.refl _ | with_reducible apply Grew.alloc | with_reducible apply Grew.grow | with_reducible apply Grew.drew | with_reducible apply Grew.drewN))) (HO.out.grew (by repeat (first | with_reducible exact Grew.refl _ | with_reducible apply Grew.alloc | with_reducible apply Grew.grow | with_reducible apply Grew.drew | with_reducible apply Grew.drewN))) ((shows_one_g _ _ _ _ _).grew (by repeat (first | with_reducible exact Grew.refl _ | with_reducible apply Grew.alloc | with_reducible apply Grew.grow | with_reducible apply Grew.drew | with_reducible apply Grew.drewN))) (by simp [Value.oneCell']) (by rw [hsl]; simp only [maxLen, List.length_cons, List.length_nil]; omega) (by rw [hsl]; simp only [List.length_cons, List.length_nil]; omega) ?_
          intro v' w2' ho' hg'
          rw [← HN.out] at ho'
          refine wpList_nil_then ?_
          refine wpAny_one 18 (by decide +kernel) (by kernel_rfl) (by decide +kernel) ?_
          simp only [pickOps_cons, pickOps_nil, pick1_zero, pick1_succ]
          go_wp2_with (fail)
          refine wpAny_end (by decide +kernel) (by kernel_rfl) ?_
          go_wp2
          refine ⟨?_, ?_⟩
          · iterate 66 apply Exists.intro
            refine And.intro ?_ rfl
            exact ⟨k + 1, by omega, by omega, by go_num, ho', hg'⟩
          · show 64 - (intOf (.int .i64 ((k : Int) + 1))).toNat < 64 - (intOf (.int .i64 (k : Int))).toNat
            simp only [intOf]; omega
        · obtain rfl : k = 64 := by omega
          go_wp2
          go_ret
          exact ⟨_, rfl, HO.out, HG.out⟩
end Go.Proofs.Ytnhcamklammcdaa
/- The document's rounds. -/
namespace Go.Proofs.Ytnhcamklammcdaa
set_option linter.unusedVariables false
set_option linter.unusedSimpArgs false
open Go.RowKit
set_option maxRecDepth 100000
theorem not_u (x : BitVec 32) : (4294967295 : Int) - u x = u (~~~ x) := by
  unfold u
  rw [BitVec.toNat_not]
  have := x.isLt
  omega
theorem maj_or (a b c : BitVec 32) : (a &&& b ||| a &&& c ||| b &&& c) = (a &&& b ^^^ a &&& c ^^^ b &&& c) := by
  apply BitVec.eq_of_getLsbD_eq
  intro i _
  simp only [BitVec.getLsbD_or, BitVec.getLsbD_and, BitVec.getLsbD_xor]
  cases a.getLsbD i <;> cases b.getLsbD i <;> cases c.getLsbD i <;> rfl
/-- The words, to 'k' of which what was is added. -/
def addk (s v : List (BitVec 32)) (k : Nat) : List (BitVec 32) := (List.range 8).map fun i => if i < k then wordAt s i + wordAt v i else wordAt v i
theorem addk_len (s v : List (BitVec 32)) (k : Nat) : (addk s v k).length = 8 := by simp [addk]
theorem addk_0 (s v : List (BitVec 32)) (h : v.length = 8) : addk s v 0 = v := by
  apply List.ext_getElem
  · simp [addk, h]
  · intro i h1 h2
    simp only [addk, List.getElem_map, List.getElem_range, if_neg (Nat.not_lt_zero i), wordAt_eq v i h2]
theorem addk_at (s v : List (BitVec 32)) (k : Nat) (h : k < 8) : wordAt (addk s v k) k = wordAt v k := by
  rw [wordAt_eq _ _ (by rw [addk_len]; exact h)]
  simp [addk]
theorem addk_set (s v : List (BitVec 32)) (k : Nat) : (addk s v k).set k (wordAt v k + wordAt s k) = addk s v (k + 1) := by
  apply List.ext_getElem
  · simp [addk]
  · intro i h1 h2
    simp only [addk, List.getElem_set, List.getElem_map, List.getElem_range]
    split
    · subst_vars; rw [if_pos (by omega), BitVec.add_comm]
    · split
      · rw [if_pos (by omega)]
      · rw [if_neg (by omega)]
theorem addk_8 (s : List (BitVec 32)) (l : List Nat) : addk s (rnds s (sched l 64) 64) 8 = compress s l := by
  unfold addk compress
  apply List.map_congr_left
  intro i hi
  rw [if_pos (by simpa using hi)]
theorem rnumbers_w (w : World) : Calls Try.prog 71 #[] w fun e w' => ∃ g, e = .returned (.slice (some ⟨g, 0, none⟩) 64 64) ∧ g < w'.heap.size ∧ (∀ j, j < 64 → w'.cell? ⟨g, j, none⟩ = some (.int .u32 (u (wordAt ks j)))) ∧ Grew w w' := by
  go_enter Try.func71, Try.ntmps71
  go_wp2
  go_ret
  refine ⟨w.heap.size, rfl, by simp, fun j hj => ?_, (by repeat (first | with_reducible exact Grew.refl _ | with_reducible apply Grew.alloc | with_reducible apply Grew.grow | with_reducible apply Grew.drew | with_reducible apply Grew.drewN))⟩
  have h := own_alloc w w.heap.size 75 (wsl ks) (Nat.le_refl _) (by rw [wsl_len, ks_len]; decide)
  have h2 := own_cell h j (by rw [wsl_len, ks_len]; exact hj)
  rw [wsl_at] at h2
  exact h2
theorem txr (v : List (BitVec 32)) (k w : BitVec 32) : wordAt v 7 + (rr 6 (wordAt v 4) ^^^ rr 11 (wordAt v 4) ^^^ rr 25 (wordAt v 4)) + (wordAt v 4 &&& wordAt v 5 ^^^ ~~~ wordAt v 4 &&& wordAt v 6) + k + w = tx v k w := rfl
theorem tyr (v : List (BitVec 32)) : (rr 2 (wordAt v 0) ^^^ rr 13 (wordAt v 0) ^^^ rr 22 (wordAt v 0)) + (wordAt v 0 &&& wordAt v 1 ||| wordAt v 0 &&& wordAt v 2 ||| wordAt v 1 &&& wordAt v 2) = ty v := by rw [maj_or]; rfl
set_option maxRecDepth 100000 in
set_option maxHeartbeats 6400000 in
theorem rrounds_w (s W : List (BitVec 32)) (hs : s.length = 8) (hW : W.length = 64) (gs gw cs cw : Nat) (w : World) (h1 : ∀ j, j < 8 → w.cell? ⟨gs, j, none⟩ = some (.int .u32 (u (wordAt s j)))) (h2 : ∀ j, j < 64 → w.cell? ⟨gw, j, none⟩ = some (.int .u32 (u (wordAt W j)))) :
    Calls Try.prog 63 #[.slice (some ⟨gs, 0, none⟩) 8 cs, .slice (some ⟨gw, 0, none⟩) 64 cw] w fun e w' => ∃ v, e = .returned v ∧ OwnR w' w.heap.size 75 v (wsl (addk s (rnds s W 64) 8)) ∧ Grew w w' := by
  obtain ⟨iw, hi, hz, hsz, hby⟩ := info_w
  have l1 : gs < w.heap.size := World.block_lt_of_cell? w _ (h1 0 (by omega))
  have l2 : gw < w.heap.size := World.block_lt_of_cell? w _ (h2 0 (by omega))
  have H1 := Lib.hid h1
  have H2 := Lib.hid h2
  have hsh : Shows w (.slice (some ⟨gs, 0, none⟩) 8 cs) (wsl s) := by
    have : Shows w (.slice (some ⟨gs, 0, none⟩) (wsl s).length cs) (wsl s) := .inl ⟨gs, 0, cs, rfl, l1, fun j x hj => by
      have hj2 : j < s.length := by have := (List.getElem?_eq_some_iff.1 hj).1; rwa [wsl_len] at this
      rw [Nat.zero_add, h1 j (by omega), ← wsl_get s j hj2, hj]⟩
    rwa [wsl_len, hs] at this
  have HSH := Lib.hid hsh
  clear h1 h2 hsh
  go_enter Try.func63, Try.ntmps63
  go_wp2_with (first
    | (go_at_call 71; refine (rnumbers_w _).mono ?_; rintro e wk ⟨gk, rfl, hgk, hkc, hgr⟩)
    | (at_builtin; refine stop_of ?_))
  unfold Stop
  refine wpList_appends rfl _ _ _ rfl _ iw _ 4 under_ws hi hz hsz hby rfl wk _ _ _ rfl rfl [] (wsl s) (Grew.refl _) (by exact OwnR.nil _ _ _) (by exact HSH.out.grew hgr) (wsl_one s) (by rw [wsl_len, hs]; decide) (by rw [wsl_len, hs]; decide) ?_
  intro v0 w1 ho0 hg0
  rw [List.nil_append] at ho0
  have hg1 := hgr.trans hg0
  have HO := Lib.hid (ho0.base (base' := w.heap.size) hgr.size)
  have HG := Lib.hid hg1
  have HGK := Lib.hid (fun j hj => hg0.cell (hkc j hj))
  have HW1 := Lib.hid (fun j hj => hg1.cell (H2.out j hj))
  have HS1 := Lib.hid (fun j hj => hg1.cell (H1.out j hj))
  have z1 : w.heap.size ≤ w1.heap.size := hg1.size
  have z2 : gk < w1.heap.size := Nat.lt_of_lt_of_le hgk hg0.size
  have z3 : gw < w1.heap.size := by omega
  have z4 : gs < w1.heap.size := by omega
  clear ho0 hg0 hg1 hgr hkc hgk H2 HSH l2
  go_wp2
  go_loopw [7, 6] (fun n v wr => ∃ k : Nat, k ≤ 64 ∧ n = .int .i64 k ∧ OwnR wr w.heap.size 75 v (wsl (rnds s W k)) ∧ Grew w1 wr) (fun n _ _ => 64 - (intOf n).toNat)
  case atStart => exact ⟨0, by omega, rfl, HO.out, Grew.refl _⟩
  case round =>
    obtain ⟨k, hk, rfl, ho, hg⟩ := hrel
    have hrl := rnds_len s W hs k
    obtain ⟨g, cap, hv, hgb, hgs, hgc, hgm, hcell⟩ := own_form ho (by rw [wsl_len, hrl]; omega)
    rw [wsl_len, hrl] at hv hgc hcell
    have HO2 := Lib.hid ho
    have HG2 := Lib.hid hg
    have z5 := hg.size
    clear ho hg
    by_cases hn : k < 64
    · have hlt : (k : Int) < 64 := by omega
      subst hv
      have ck := HG2.out.cell (HGK.out k hn)
      have cw := HG2.out.cell (HW1.out k hn)
      have c0 := hcell 0 (by omega)
      have c1 := hcell 1 (by omega)
      have c2 := hcell 2 (by omega)
      have c3 := hcell 3 (by omega)
      have c4 := hcell 4 (by omega)
      have c5 := hcell 5 (by omega)
      have c6 := hcell 6 (by omega)
      have c7 := hcell 7 (by omega)
      rw [wsl_get _ _ (by rw [hrl]; omega)] at c0 c1 c2 c3 c4 c5 c6 c7
      have hfold : wsl (rnds s W (k + 1)) = [.int .u32 (u (tx (rnds s W k) (wordAt ks k) (wordAt W k) + ty (rnds s W k))), .int .u32 (u (wordAt (rnds s W k) 0)), .int .u32 (u (wordAt (rnds s W k) 1)), .int .u32 (u (wordAt (rnds s W k) 2)), .int .u32 (u (wordAt (rnds s W k) 3 + tx (rnds s W k) (wordAt ks k) (wordAt W k))), .int .u32 (u (wordAt (rnds s W k) 4)), .int .u32 (u (wordAt (rnds s W k) 5)), .int .u32 (u (wordAt (rnds s W k) 6))] := rfl
      rw [← tyr, ← txr, ← BitVec.add_assoc] at hfold
      obtain ⟨kk, hkk⟩ : ∃ x, wordAt ks k = x := ⟨_, rfl⟩
      obtain ⟨ww, hww⟩ : ∃ x, wordAt W k = x := ⟨_, rfl⟩
      obtain ⟨v0, hv0⟩ : ∃ x, wordAt (rnds s W k) 0 = x := ⟨_, rfl⟩
      obtain ⟨v1, hv1⟩ : ∃ x, wordAt (rnds s W k) 1 = x := ⟨_, rfl⟩
      obtain ⟨v2, hv2⟩ : ∃ x, wordAt (rnds s W k) 2 = x := ⟨_, rfl⟩
      obtain ⟨v3, hv3⟩ : ∃ x, wordAt (rnds s W k) 3 = x := ⟨_, rfl⟩
      obtain ⟨v4, hv4⟩ : ∃ x, wordAt (rnds s W k) 4 = x := ⟨_, rfl⟩
      obtain ⟨v5, hv5⟩ : ∃ x, wordAt (rnds s W k) 5 = x := ⟨_, rfl⟩
      obtain ⟨v6, hv6⟩ : ∃ x, wordAt (rnds s W k) 6 = x := ⟨_, rfl⟩
      obtain ⟨v7, hv7⟩ : ∃ x, wordAt (rnds s W k) 7 = x := ⟨_, rfl⟩
      simp only [hkk, hww, hv0, hv1, hv2, hv3, hv4, hv5, hv6, hv7] at c0 c1 c2 c3 c4 c5 c6 c7 ck cw hfold
      have HF := Lib.hid hfold
      have hnot := not_u v4
      have y1 : gk < wr.heap.size := by omega
      have y2 : gw < wr.heap.size := by omega
      clear hkk hww hv0 hv1 hv2 hv3 hv4 hv5 hv6 hv7 hfold hcell hk hn hrl
      go_wp2
      first | refine wp_region_pure_lit_g (by kernel_rfl) (by kernel_rfl) ?_ | refine wp_region_pure_lit (by kernel_rfl) (by kernel_rfl) ?_
      repeat (go_big_quiet_step ((go_at_call 72; exact Calls.pure_of (rturn_i _ _ (by decide) _))))
      refine wpQuiet_nil ?_
      intro _ hw'
      obtain ⟨δ1, hw''⟩ := hw'
      subst hw''
      go_wp2
      first | refine wp_region_pure_lit_g (by kernel_rfl) (by kernel_rfl) ?_ | refine wp_region_pure_lit (by kernel_rfl) (by kernel_rfl) ?_
      repeat (go_big_quiet_step ((fail)))
      refine wpQuiet_nil ?_
      intro _ hw'
      obtain ⟨δ1, hw''⟩ := hw'
      subst hw''
      go_wp2
      first | refine wp_region_pure_lit_g (by kernel_rfl) (by kernel_rfl) ?_ | refine wp_region_pure_lit (by kernel_rfl) (by kernel_rfl) ?_
      repeat (go_big_quiet_step ((fail)))
      refine wpQuiet_nil ?_
      intro _ hw'
      obtain ⟨δ1, hw''⟩ := hw'
      subst hw''
      go_wp2
      first | refine wp_region_pure_lit_g (by kernel_rfl) (by kernel_rfl) ?_ | refine wp_region_pure_lit (by kernel_rfl) (by kernel_rfl) ?_
      repeat (go_big_quiet_step ((go_at_call 72; exact Calls.pure_of (rturn_i _ _ (by decide) _))))
      refine wpQuiet_nil ?_
      intro _ hw'
      obtain ⟨δ1, hw''⟩ := hw'
      subst hw''
      go_wp2
      first | refine wp_region_pure_lit_g (by kernel_rfl) (by kernel_rfl) ?_ | refine wp_region_pure_lit (by kernel_rfl) (by kernel_rfl) ?_
      repeat (go_big_quiet_step ((fail)))
      refine wpQuiet_nil ?_
      intro _ hw'
      obtain ⟨δ1, hw''⟩ := hw'
      subst hw''
      go_wp2
      refine wp_region_flow (by kernel_rfl) ?_
      intro δf
      apply wpFlow_quiets [0,1,2,3,4,5,6,7,8,9,10,11,12,13,14,15,16,17,18,19,20,21,22,23,24,25,26,27] (by decide +kernel) (by decide +kernel) (by kernel_rfl) (by intro _ _ _ d _ h; cases d <;> exact h) _
      · intro A hA δ'
        simp only [pickOps_cons, pickOps_nil, pick1_zero, pick1_succ]
        repeat (go_big_quiet_step ((fail)))
        exact wpQuiet_nil hA.out.symm
      refine wpFlow_one 28 (by decide +kernel) (by kernel_rfl) (by kernel_rfl) ?_
      refine wpFlowS_intro ?_
      simp only [pickOps_cons, pickOps_nil, pick1_zero, pick1_succ]
      intro δf
      go_wp2_with (fail)
      refine ⟨(by first | assumption | (simp only [grow_grow, Array.append_assoc]; assumption) | exact Grew.refl _ | (simp only [grow_grow, Array.append_assoc]; exact (by repeat (first | with_reducible exact Grew.refl _ | with_reducible apply Grew.alloc | with_reducible apply Grew.grow | with_reducible apply Grew.drew | with_reducible apply Grew.drewN))) | exact (by repeat (first | with_reducible exact Grew.refl _ | with_reducible apply Grew.alloc | with_reducible apply Grew.grow | with_reducible apply Grew.drew | with_reducible apply Grew.drewN))), ?_⟩
      refine wpFlow_one 29 (by decide +kernel) (by kernel_rfl) (by kernel_rfl) ?_
      refine wpFlowS_intro ?_
      simp only [pickOps_cons, pickOps_nil, pick1_zero, pick1_succ]
      intro δf
      go_wp2_with (fail)
      refine ⟨(by first | assumption | (simp only [grow_grow, Array.append_assoc]; assumption) | exact Grew.refl _ | (simp only [grow_grow, Array.append_assoc]; exact (by repeat (first | with_reducible exact Grew.refl _ | with_reducible apply Grew.alloc | with_reducible apply Grew.grow | with_reducible apply Grew.drew | with_reducible apply Grew.drewN))) | exact (by repeat (first | with_reducible exact Grew.refl _ | with_reducible apply Grew.alloc | with_reducible apply Grew.grow | with_reducible apply Grew.drew | with_reducible apply Grew.drewN))), ?_⟩
      refine wpFlow_end (by decide +kernel) (by kernel_rfl) ?_
      intro δf
      go_wp2
      refine ⟨⟨k + 1, by omega, by go_num, ?_, HG2.out.trans (by repeat (first | with_reducible exact Grew.refl _ | with_reducible apply Grew.alloc | with_reducible apply Grew.grow | with_reducible apply Grew.drew | with_reducible apply Grew.drewN))⟩, by simp only [intOf]; omega⟩
      rw [HF.out]
      exact (own_alloc_g _ _ _ _ [_, _, _, _, _, _, _, _] (by omega) (by simp only [List.length_cons, List.length_nil, maxLen]; omega)).grew ⟨_, rfl⟩
    · obtain rfl : k = 64 := by omega
      obtain ⟨V, hV⟩ : ∃ V, rnds s W 64 = V := ⟨_, rfl⟩
      rw [hV] at HO2 hrl hcell
      have HV := Lib.hid hV
      have HGW := Lib.hid (HG.out.trans HG2.out)
      subst hv
      clear hV hcell hk hn HGK HW1 HO HS1
      go_wp2
      go_loopw [13] (fun n wr2 => ∃ k : Nat, k ≤ 8 ∧ n = .int .i64 k ∧ OwnR wr2 w.heap.size 75 (.slice (some ⟨g, 0, none⟩) 8 cap) (wsl (addk s V k)) ∧ Grew w wr2) (fun n _ => 8 - (intOf n).toNat)
      case atStart => exact ⟨0, by omega, rfl, by rw [addk_0 s V hrl]; exact HO2.out, HGW.out⟩
      case round =>
        obtain ⟨m, hm, rfl, ho3, hg3⟩ := hrel
        have hal := addk_len s V m
        have HO3 := Lib.hid ho3
        have HG3 := Lib.hid hg3
        have z6 := hg3.size
        clear ho3 hg3 z5 HO2 HGW
        by_cases hm8 : m < 8
        · have hlt : (m : Int) < 8 := by omega
          have ca := own_cell HO3.out m (by rw [wsl_len, hal]; exact hm8)
          rw [wsl_at, addk_at s V m hm8] at ca
          have cs' := HG3.out.cell (H1.out m hm8)
          have hfz := own_frozen HO3.out m
          have hgl : g < wr.heap.size := (HO3.out.block g rfl).2
          have y4 : gs < wr.heap.size := by omega
          have hset : (wsl (addk s V m)).set m (.int .u32 (u (wordAt V m + wordAt s m))) = wsl (addk s V (m + 1)) := by
            rw [← addk_set]; unfold wsl; rw [List.map_set]
          obtain ⟨x, hx⟩ : ∃ x, wordAt V m = x := ⟨_, rfl⟩
          obtain ⟨y, hy⟩ : ∃ y, wordAt s m = y := ⟨_, rfl⟩
          rw [hx] at ca
          rw [hy] at cs'
          rw [hx, hy] at hset
          have HSET := Lib.hid hset
          clear hset hx hy hm hm8 hal
          go_wp2
          first | refine wp_region_pure_tail_g 12 (by kernel_rfl) (by kernel_rfl) (by intro _ _ _ d _ h; cases d <;> exact h) ?_ | refine wp_region_pure_tail 12 (by kernel_rfl) (by kernel_rfl) (by intro _ _ _ d _ h; cases d <;> exact h) ?_
          simp only [List.take_succ_cons, List.take_zero, List.drop_succ_cons, List.drop_zero]
          repeat (go_big_quiet_step ((fail)))
          refine wpQuiet_nil ?_
          intro _ hw'
          obtain ⟨δ1, hw''⟩ := hw'
          subst hw''
          go_wp2
          have hst := own_stored (HO3.out.grew (w' := wr.grow δ1) ⟨_, rfl⟩) m (.int .u32 (u (x + y)))
          rw [HSET.out] at hst
          have hst' : OwnR ((wr.setCell ⟨g, m, none⟩ (.int .u32 (u (x + y)))).grow δ1) w.heap.size 75 (.slice (some ⟨g, 0, none⟩) 8 cap) (wsl (addk s V (m + 1))) ∧ (wr.grow δ1).grownBy ((wr.setCell ⟨g, m, none⟩ (.int .u32 (u (x + y)))).grow δ1) (some g) := by
            rw [← setCell_grow_old _ _ _ _ _ _ hgl]; exact hst
          exact ⟨⟨m + 1, by omega, by go_num, hst'.1, (HG3.out.grow δ1).grown hst'.2 fun j hj => (by cases hj; exact hgb)⟩, by simp only [intOf]; omega⟩
        · obtain rfl : m = 8 := by omega
          go_wp2
          go_ret
          exact ⟨_, rfl, by rw [HV.out]; exact HO3.out, HG3.out⟩
end Go.Proofs.Ytnhcamklammcdaa
/- What is shown, as a string. -/
namespace Go.Proofs.Ytnhcamklammcdaa
set_option linter.unusedVariables false
set_option linter.unusedSimpArgs false
open Go.RowKit
theorem foldl_push (l : List Nat) : ∀ (s : ByteArray), (l.map fun (c : Nat) => (c : Int)).foldl (fun r n => r.push (UInt8.ofNat n.toNat)) s = ⟨(s.data.toList ++ l.map UInt8.ofNat).toArray⟩ := by
  induction l with
  | nil => intro s; simp
  | cons a l ih =>
    intro s
    simp only [List.map_cons, List.foldl_cons, Int.toNat_natCast]
    rw [ih]
    simp [ByteArray.push]
/-- What is shown, as a string. -/
theorem shows_string {w : World} {v : Value} {l : List Nat} (h : Shows w v (bys l)) : (convert 65 9 v).run Try.prog w = .ok (.string (bstr l)) w := by
  have key : ∀ (a : Addr) (c : Nat), (∀ j u, (bys l)[j]? = some u → w.cell? (a.add j) = some u) → (convert 65 9 (.slice (some a) (bys l).length c)).run Try.prog w = .ok (.string (bstr l)) w := fun a c h => by
    have hl := run_loadCells_list (P := Try.prog) (w := w) a (bys l) h
    have hm : bys l = ((l.map fun (c : Nat) => (c : Int)).map (Value.int .u8)) := by simp [bys]
    rw [run_convert_bytes_string w _ _ 5 _ _ _ Try.underlying65 Try.underlying5 Try.underlying9, run_bytesToString w a _ c (l.map fun (c : Nat) => (c : Int)) (by rw [hl, hm]), foldl_push]
    rfl
  rcases h with ⟨b, o, c, rfl, hb, h⟩ | ⟨p, c, rfl, h0⟩
  · exact key _ c (fun j u hj => by rw [add_off]; exact h j u hj)
  · have hl : l = [] := by cases l with | nil => rfl | cons a l => simp [bys] at h0
    subst hl
    cases p with
    | some a => exact key a c (by simp [bys])
    | none =>
      rw [run_convert_bytes_string w _ _ 5 _ _ _ Try.underlying65 Try.underlying5 Try.underlying9]
      rfl
theorem conv_str {w : World} {v : Value} {l : List Nat} (h : Shows w v (bys l)) (δ : Junk) : (convert 65 9 v).run Try.prog (w.grow δ) = .ok (.string (bstr l)) (w.grow δ) := shows_string (h.grew ⟨δ, rfl⟩)
end Go.Proofs.Ytnhcamklammcdaa
/- What bytes become, byte by byte; bytes as strings. -/
namespace Go.Proofs.Ytnhcamklammcdaa
set_option linter.unusedVariables false
set_option linter.unusedSimpArgs false
open Go.RowKit
set_option maxRecDepth 100000
theorem byteAt_app (a b : List Nat) (i : Nat) : byteAt (a ++ b) i = if i < a.length then byteAt a i else byteAt b (i - a.length) := by
  unfold byteAt List.getD
  split
  · rename_i h; rw [List.getElem?_append_left h]
  · rename_i h; rw [List.getElem?_append_right (by omega)]
theorem byteAt_eq' (l : List Nat) (j : Nat) (h : j < l.length) : some (Value.int .u8 (byteAt l j : Nat)) = (bys l)[j]? := by rw [byteAt_eq l j h]; simp [bys, h]
theorem byteAt_zeros (n i : Nat) : byteAt (zeros n) i = 0 := by
  unfold byteAt zeros List.getD
  by_cases h : i < n
  · simp [h]
  · simp [h]
theorem byteAt_cons (c : Nat) (l : List Nat) (i : Nat) : byteAt (c :: l) (i + 1) = byteAt l i := by simp [byteAt, List.getD]
theorem tailk_8 (n : Nat) : tailk n 8 = [n / 2 ^ 56 % 256, n / 2 ^ 48 % 256, n / 2 ^ 40 % 256, n / 2 ^ 32 % 256, n / 2 ^ 24 % 256, n / 2 ^ 16 % 256, n / 2 ^ 8 % 256, n / 2 ^ 0 % 256] := rfl
theorem tailk_small (n : Nat) (h : n < 65536) : tailk n 8 = zeros 6 ++ [n / 256, n % 256] := by
  rw [tailk_8]
  simp only [zeros, List.replicate, List.cons_append, List.nil_append, List.cons.injEq]
  have e : ∀ k, 65536 ≤ 2 ^ k → n / 2 ^ k % 256 = 0 := fun k hk => by rw [Nat.div_eq_of_lt (by omega)]
  refine ⟨e 56 (by decide), e 48 (by decide), e 40 (by decide), e 32 (by decide), e 24 (by decide), e 16 (by decide), by omega, by omega, trivial⟩
/-- The zeros' number. -/
def padz (l : List Nat) : Nat := (64 - (l.length + 9) % 64) % 64
theorem pad_small (l : List Nat) (h : l.length ≤ 400) : pad l = (l ++ (128 :: zeros (padz l + 6))) ++ [8 * l.length / 256, 8 * l.length % 256] := by
  unfold pad
  rw [tailk_small _ (by omega)]
  have : zeros (padz l + 6) = zeros (padz l) ++ zeros 6 := by unfold zeros; rw [List.replicate_append_replicate]
  rw [this]
  simp [padz]
theorem pad_len' (l : List Nat) : (pad l).length = l.length + 9 + padz l := pad_len l
theorem padz_lt (l : List Nat) : padz l < 64 := Nat.mod_lt _ (by omega)
theorem pad_take (l : List Nat) : (pad l).take l.length = l := by unfold pad; rw [List.take_left]
theorem pad_at_len (l : List Nat) : byteAt (pad l) l.length = 128 := by
  unfold pad
  rw [byteAt_app, if_neg (by omega), Nat.sub_self]
  rfl
theorem pad_at_zero (l : List Nat) (h : l.length ≤ 400) (i : Nat) (h1 : l.length < i) (h2 : i < (pad l).length - 2) : byteAt (pad l) i = 0 := by
  have hp := pad_len' l
  rw [pad_small l h, byteAt_app, if_pos (by simp [zeros_len]; omega), byteAt_app, if_neg (by omega)]
  obtain ⟨j, hj⟩ : ∃ j, i - l.length = j + 1 := ⟨i - l.length - 1, by omega⟩
  rw [hj, byteAt_cons, byteAt_zeros]
theorem pad_at_end (l : List Nat) (h : l.length ≤ 400) : byteAt (pad l) ((pad l).length - 2) = 8 * l.length / 256 ∧ byteAt (pad l) ((pad l).length - 1) = 8 * l.length % 256 := by
  have hp := pad_len' l
  have hl : (l ++ (128 :: zeros (padz l + 6))).length = (pad l).length - 2 := by simp [zeros_len]; omega
  have e1 : (pad l).length - 1 = (pad l).length - 2 + 1 := by omega
  generalize (pad l).length = n at *
  rw [pad_small l h]
  constructor
  · rw [byteAt_app, if_neg (by omega), hl, Nat.sub_self]; rfl
  · rw [byteAt_app, if_neg (by omega), hl, e1, show n - 2 + 1 - (n - 2) = 1 by omega]; rfl
end Go.Proofs.Ytnhcamklammcdaa
/- The document's Pad. -/
namespace Go.Proofs.Ytnhcamklammcdaa
set_option linter.unusedVariables false
set_option linter.unusedSimpArgs false
open Go.RowKit
set_option maxRecDepth 100000
def lenV : Value → Nat
  | .slice _ n _ => n
  | _ => 0
theorem own_len {w : World} {base : Nat} {e : TypeId} {v : Value} {xs : List Value} (h : OwnR w base e v xs) : ∃ p c, v = .slice p xs.length c := shows_form h.shows
theorem tail_take (n k : Nat) (h : k < 8) : (tailk n 8).take (k + 1) = (tailk n 8).take k ++ [n / (72057594037927936 / 256 ^ k) % 256] := by
  rw [tailk_8]
  match k, h with
  | 0, _ => rfl
  | 1, _ => rfl
  | 2, _ => rfl
  | 3, _ => rfl
  | 4, _ => rfl
  | 5, _ => rfl
  | 6, _ => rfl
  | 7, _ => rfl
set_option maxRecDepth 100000 in
set_option maxHeartbeats 3200000 in
theorem rpad_w (l : List Nat) (v : Value) (w : World) (hl : l.length ≤ 1073741824) (hv : Shows w v (bys l)) :
    Calls Try.prog 61 #[v] w fun e w' => ∃ v', e = .returned v' ∧ OwnR w' w.heap.size 5 v' (bys (pad l)) ∧ Grew w w' := by
  obtain ⟨ib, hi, hz, hsz, hby⟩ := info_b
  obtain ⟨p, c, rfl⟩ := shows_form hv
  rw [bys_len] at hv ⊢
  have HV := Lib.hid hv
  clear hv
  have hpz := padz_lt l
  go_enter Try.func61, Try.ntmps61
  go_wp2_with (at_builtin; refine stop_of ?_)
  unfold Stop
  refine wpList_appends rfl _ _ _ rfl _ ib _ 1 under_bs hi hz hsz hby rfl w _ _ _ rfl rfl [] (bys l) (Grew.refl _) (by exact OwnR.nil _ _ _) (by exact HV.out) (bys_one l) (by rw [bys_len]; simp only [maxLen, List.length_nil]; omega) (by rw [bys_len]; simp only [List.length_nil]; omega) ?_
  intro v0 w1 ho0 hg0
  rw [List.nil_append] at ho0
  have HO := Lib.hid ho0
  have HG := Lib.hid hg0
  clear ho0 hg0
  go_wp2_with (at_builtin; refine stop_of ?_)
  unfold Stop
  refine wpList_append1 rfl _ _ _ rfl _ ib _ 1 under_bs hi hz hsz hby rfl w w1 _ _ rfl rfl (bys l) HG.out (by exact HO.out) rfl (by rw [bys_len]; simp only [maxLen]; omega) (by rw [bys_len]; omega) ?_
  intro v1 w2 ho1 hg1
  have HO1 := Lib.hid (show OwnR w2 w.heap.size 5 v1 (bys (l ++ 128 :: zeros 0)) by rw [bys_append]; exact ho1)
  have HG1 := Lib.hid hg1
  clear ho1 hg1 HO HG
  go_wp2
  go_loopw [3] (fun v wr => ∃ k : Nat, k ≤ padz l ∧ OwnR wr w.heap.size 5 v (bys (l ++ 128 :: zeros k)) ∧ Grew w wr) (fun v _ => l.length + 100 - lenV v)
  case atStart => exact ⟨0, by omega, HO1.out, HG1.out⟩
  case round =>
    clear HO1 HG1
    obtain ⟨k, hk, ho, hg⟩ := hrel
    have hlen : (bys (l ++ 128 :: zeros k)).length = l.length + 1 + k := by rw [bys_len]; simp [zeros_len]; omega
    obtain ⟨q, c', hv'⟩ := own_len ho
    rw [hlen] at hv'
    subst hv'
    have HO := Lib.hid ho
    have HG := Lib.hid hg
    clear ho hg
    obtain ⟨L, hL⟩ : ∃ L, l.length + 1 + k = L := ⟨_, rfl⟩
    rw [hL] at HO hlen ⊢
    by_cases hn : (L : Int) % 64 = 56
    · have hkk : k = padz l := by unfold padz at hk ⊢; omega
      have hn2 : (l.length : Int) ≤ 1073741824 := by omega
      have hLb : (L : Int) ≤ 2000000000 := by omega
      have HK := Lib.hid hkk
      have HL := Lib.hid hL
      clear hk hkk hL
      go_wp2
      clear hn hlen
      go_loopw [6, 3, 5] (fun i v y wr => ∃ k : Nat, k ≤ 8 ∧ i = .int .i64 k ∧ y = .int .u64 ((72057594037927936 / 256 ^ k : Nat) : Int) ∧ OwnR wr w.heap.size 5 v (bys ((l ++ 128 :: zeros (padz l)) ++ (tailk (8 * l.length) 8).take k)) ∧ Grew w wr) (fun i _ _ _ => 8 - (intOf i).toNat)
      case atStart => exact ⟨0, by omega, rfl, rfl, by rw [List.take_zero, List.append_nil, ← HK.out]; exact HO.out, HG.out⟩
      case round =>
        clear HO HG
        obtain ⟨m, hm, rfl, rfl, ho, hg⟩ := hrel
        have HO := Lib.hid ho
        have HG := Lib.hid hg
        clear ho hg
        by_cases hm8 : m < 8
        · have hlt : (m : Int) < 8 := by omega
          have ht := tail_take (8 * l.length) m hm8
          have hb1 : 1 ≤ 72057594037927936 / 256 ^ m := by
            match m, hm8 with
            | 0, _ => decide
            | 1, _ => decide
            | 2, _ => decide
            | 3, _ => decide
            | 4, _ => decide
            | 5, _ => decide
            | 6, _ => decide
            | 7, _ => decide
          have hb2 : 72057594037927936 / 256 ^ (m + 1) = 72057594037927936 / 256 ^ m / 256 := by rw [Nat.pow_succ, Nat.div_div_eq_div_mul]
          have hb3 : 72057594037927936 / 256 ^ m ≤ 72057594037927936 := Nat.div_le_self _ _
          obtain ⟨B, hB⟩ : ∃ B, 72057594037927936 / 256 ^ m = B := ⟨_, rfl⟩
          obtain ⟨B', hB'⟩ : ∃ B, 72057594037927936 / 256 ^ (m + 1) = B := ⟨_, rfl⟩
          rw [hB] at hb1 hb2 hb3 ht ⊢
          rw [hB'] at hb2
          have HB' := Lib.hid hB'
          have hlen2 : (bys ((l ++ 128 :: zeros (padz l)) ++ (tailk (8 * l.length) 8).take m)).length = l.length + 1 + padz l + m := by
            rw [bys_len]; simp [zeros_len, tailk_len]; omega
          have hnext : bys ((l ++ 128 :: zeros (padz l)) ++ (tailk (8 * l.length) 8).take (m + 1)) = bys ((l ++ 128 :: zeros (padz l)) ++ (tailk (8 * l.length) 8).take m) ++ [.int .u8 ((8 * l.length / B % 256 : Nat) : Int)] := by
            rw [ht, ← List.append_assoc, bys_append]; rfl
          have HN := Lib.hid hnext
          have hb4 : 1 ≤ (B : Int) := by omega
          have hb5 : (B : Int) ≠ 0 := by omega
          have hb6 : (B : Int) ≤ 72057594037927936 := by omega
          have hd1 : (8 * (l.length : Int)) / (B : Int) = ((8 * l.length / B : Nat) : Int) := by rw [Int.natCast_ediv]; rfl
          have hd2 : ((8 * l.length / B : Nat) : Int) % 256 = ((8 * l.length / B % 256 : Nat) : Int) := by rw [Int.natCast_emod]; rfl
          have hd3 : (B : Int) / 256 = (B' : Int) := by rw [hb2]; rfl
          have hd4 : 8 * l.length / B % 256 < 256 := Nat.mod_lt _ (by omega)
          have hd5 : 8 * l.length / B ≤ 8 * l.length := Nat.div_le_self _ _
          obtain ⟨Y, hY⟩ : ∃ Y, 8 * l.length / B % 256 = Y := ⟨_, rfl⟩
          rw [hY] at hd2 hd4 HN
          obtain ⟨X, hX⟩ : ∃ X, 8 * l.length / B = X := ⟨_, rfl⟩
          rw [hX] at hd1 hd2 hd5
          have hd6 : (X : Int) ≤ 18446744073709551615 := by omega
          clear hB hB' ht hnext hb1 hb2 hb3 hY hX hm hm8
          go_wp2_with (at_builtin; refine stop_of ?_)
          unfold Stop
          refine wpList_append1 rfl _ _ _ rfl _ ib _ 1 under_bs hi hz hsz hby rfl w wr _ _ rfl rfl _ HG.out (by exact HO.out) rfl (by rw [hlen2]; simp only [maxLen]; omega) (by rw [hlen2]; omega) ?_
          intro v2 w3 ho2 hg2
          have ho3 := HN.out ▸ ho2
          go_wp2
          exact ⟨⟨m + 1, by omega, by go_num, by rw [HB'.out], ho3, hg2⟩, by simp only [intOf]; omega⟩
        · obtain rfl : m = 8 := by omega
          go_wp2
          go_ret
          refine ⟨_, rfl, ?_, HG.out⟩
          have h8 : (tailk (8 * l.length) 8).take 8 = tailk (8 * l.length) 8 := List.take_of_length_le (by rw [tailk_len]; omega)
          have := HO.out
          rw [h8, List.append_assoc, List.cons_append] at this
          exact this
    · have hlt : k < padz l := by unfold padz at hk ⊢; omega
      have hne : ¬ ((L : Int) % 64 = 56) := hn
      have HLL := Lib.hid hL
      clear hk hL
      go_wp2_with (at_builtin; refine stop_of ?_)
      unfold Stop
      refine wpList_append1 rfl _ _ _ rfl _ ib _ 1 under_bs hi hz hsz hby rfl w wr _ _ rfl rfl _ HG.out (by exact HO.out) rfl (by rw [hlen]; simp only [maxLen]; have := HLL.out; omega) (by rw [hlen]; have := HLL.out; omega) ?_
      intro v2 w3 ho2 hg2
      obtain ⟨q2, c2, hv2⟩ := own_len ho2
      have hlen3 : (bys (l ++ 128 :: zeros k) ++ [Value.int .u8 0]).length = L + 1 := by rw [List.length_append, hlen]; rfl
      rw [hlen3] at hv2
      subst hv2
      go_wp2
      exact ⟨⟨k + 1, by omega, by rw [zeros_succ, show l ++ 128 :: (zeros k ++ [0]) = (l ++ 128 :: zeros k) ++ [0] by simp, bys_append]; exact ho2, hg2⟩, by simp only [lenV]; have := HLL.out; omega⟩
end Go.Proofs.Ytnhcamklammcdaa
/- The document's Sum. -/
namespace Go.Proofs.Ytnhcamklammcdaa
set_option linter.unusedVariables false
set_option linter.unusedSimpArgs false
open Go.RowKit
theorem rfirst_w (w : World) : Calls Try.prog 62 #[] w fun e w' => ∃ g, e = .returned (.slice (some ⟨g, 0, none⟩) 8 8) ∧ (∀ j, j < 8 → w'.cell? ⟨g, j, none⟩ = some (.int .u32 (u (wordAt words0 j)))) ∧ Grew w w' := by
  go_enter Try.func62, Try.ntmps62
  go_wp2
  go_ret
  refine ⟨w.heap.size, rfl, fun j hj => ?_, (by repeat (first | with_reducible exact Grew.refl _ | with_reducible apply Grew.alloc | with_reducible apply Grew.grow | with_reducible apply Grew.drew | with_reducible apply Grew.drewN))⟩
  have h := own_alloc w w.heap.size 75 (wsl words0) (Nat.le_refl _) (by decide)
  have h2 := own_cell h j (by rw [wsl_len]; exact hj)
  rw [wsl_at] at h2
  exact h2
theorem rpad_o (l : List Nat) (v : Value) (w : World) (hl : l.length ≤ 1073741824) (hv : Shows w v (bys l)) :
    Calls Try.prog 61 #[v] w fun e w' => ∃ b cap N, e = .returned (.slice (some ⟨b, 0, none⟩) N cap) ∧ (N = (pad l).length ∧ N ≤ cap) ∧ cap ≤ maxLen ∧ b < w'.heap.size ∧
      (∀ j, j < N → w'.cell? ⟨b, j, none⟩ = some (.int .u8 (byteAt (pad l) j : Nat))) ∧ Grew w w' := by
  refine (rpad_w l v w hl hv).mono ?_
  rintro e w' ⟨v', rfl, ho, hg⟩
  have hp := pad_len l
  obtain ⟨g, cap, rfl, _, hgs, hgc, hgm, hcell⟩ := own_form ho (by rw [bys_len]; omega)
  rw [bys_len] at hgc hcell ⊢
  refine ⟨g, cap, _, rfl, ⟨rfl, hgc⟩, hgm, hgs, fun j hj => ?_, hg⟩
  rw [hcell j hj, ← byteAt_eq' (pad l) j hj]
set_option maxRecDepth 100000 in
set_option maxHeartbeats 6400000 in
theorem rsum_w (l : List Nat) (v : Value) (w : World) (hl : l.length ≤ 1073741824) (hb : ∀ c ∈ l, c < 256) (hv : Shows w v (bys l)) :
    Calls Try.prog 46 #[v] w fun e w' => e = .returned (.agg (iv (sum l))) ∧ Grew w w' := by
  have HV := Lib.hid hv
  clear hv
  go_enter Try.func46, Try.ntmps46
  go_wp2_with (go_at_call 61; refine (rpad_o l v _ hl (HV.out.grew (by repeat (first | with_reducible exact Grew.refl _ | with_reducible apply Grew.alloc | with_reducible apply Grew.grow | with_reducible apply Grew.drew | with_reducible apply Grew.drewN)))).mono ?_; rintro e w2 ⟨b, cap, N, rfl, hK, hcap, hb2, hcs, hg2⟩; have HK := Lib.hid hK; clear hK; refine stop_of ?_)
  unfold Stop
  have HCS := Lib.hid hcs
  have HG2 := Lib.hid (show Grew (w.alloc (.cells (iv id0) 24)) w2 from hg2)
  clear hcs hg2
  go_wp2_with (go_at_call 62; refine (rfirst_w _).mono ?_; rintro e w3 ⟨g0, rfl, hc3, hg3⟩; refine stop_of ?_)
  unfold Stop
  have hg23 := HG2.out.trans hg3
  have r1 : w3.rowAt w.heap.size = iv id0 := by rw [Grew.rowAt hg23 _ (by simp)]; simp [go_sem]
  have r2 : w3.rowFree w.heap.size = true := by rw [Grew.rowFree hg23 _ (by simp)]; simp [go_sem]
  have HCS3 := Lib.hid (fun j hj => hg3.cell (HCS.out j hj))
  have hgw3 : Grew w w3 := (show Grew w _ from (by repeat (first | with_reducible exact Grew.refl _ | with_reducible apply Grew.alloc | with_reducible apply Grew.grow | with_reducible apply Grew.drew | with_reducible apply Grew.drewN))).trans hg23
  have HG3 := Lib.hid hgw3
  have HC3 := Lib.hid hc3
  have hp := Lib.hid (And.intro (pad_mod l) (pad_len l))
  have z1 : w.heap.size < w3.heap.size := by have := hg23.size; simp at this; omega
  have z2 : b < w3.heap.size := Nat.lt_of_lt_of_le hb2 hg3.size
  clear hc3 hg3 hg23 hgw3 HCS HG2 hb2
  go_wp2
  go_loopw [5, 4] (fun n v wr => ∃ (k i g c : Nat), i = 64 * k ∧ i ≤ N ∧ n = .int .i64 (i : Nat) ∧ v = .slice (some ⟨g, 0, none⟩) 8 c ∧ (∀ j, j < 8 → wr.cell? ⟨g, j, none⟩ = some (.int .u32 (u (wordAt (sumk (pad l) k) j)))) ∧ Grew w3 wr) (fun n _ _ => N - (intOf n).toNat)
  case atStart => exact ⟨0, 0, g0, 8, rfl, by omega, rfl, rfl, HC3.out, Grew.refl _⟩
  case round =>
    obtain ⟨k, i, g, c, hik, hiN, rfl, rfl, hcells, hgr⟩ := hrel
    have HC := Lib.hid hcells
    have HG := Lib.hid hgr
    have HIK := Lib.hid hik
    have z3 := hgr.size
    clear hcells hgr HC3 hik
    by_cases hn : i < N
    · have hlt : (i : Int) < (N : Int) := by omega
      have h64 : i + 64 ≤ N := by have := hp.out; have := HK.out; have := HIK.out; omega
      have h64' : (i : Int) + 64 ≤ (N : Int) := by omega
      have hNb : (N : Int) ≤ 2000000000 := by have := hp.out; have := HK.out; omega
      have hNc : (N : Int) ≤ (cap : Int) := by have := HK.out; omega
      have hic : (i : Int) + 64 ≤ (cap : Int) := by omega
      have hii : (i : Int) ≤ (i : Int) + 64 := by omega
      clear hiN
      go_wp2_with (go_at_call 64; refine stop_of ?_)
      unfold Stop
      have hcw : ∀ j, j < 64 → wr.cell? ⟨b, i + j, none⟩ = some (.int .u8 (byteAt ((pad l).drop i) j : Nat)) := fun j hj => by
        rw [byteAt_drop]; exact HG.out.cell (HCS3.out (i + j) (by omega))
      have hpb : ∀ c ∈ (pad l).drop i, c < 256 := fun c hc => pad_lt l hb c (List.mem_of_mem_drop hc)
      refine (rwords_w ((pad l).drop i) hpb b i (cap - i) wr hcw).mono ?_
      rintro e w4 ⟨vw, rfl, how, hgw⟩
      have hsl64 : (sched ((pad l).drop i) 64).length = 64 := sched_len _ _
      obtain ⟨gw, capw, rfl, _, hgws, _, _, hwcell⟩ := own_form how (by rw [wsl_len, hsl64]; omega)
      rw [wsl_len, hsl64] at hwcell ⊢
      have HWC := Lib.hid (fun j (hj : j < 64) => (hwcell j hj).trans (wsl_get _ j (by rw [hsl64]; exact hj)))
      have HC4 := Lib.hid (fun j hj => hgw.cell (HC.out j hj))
      have HG4 := Lib.hid (HG.out.trans hgw)
      clear hwcell hgw how hcw hpb HC HG z3
      go_wp2_with (go_at_call 63; refine stop_of ?_)
      unfold Stop
      have hskl : (sumk (pad l) k).length = 8 := by rw [← sumOf_range]; exact sumOf_len _ _
      refine (rrounds_w (sumk (pad l) k) (sched ((pad l).drop i) 64) hskl hsl64 g gw c capw w4 HC4.out HWC.out).mono ?_
      rintro e w5 ⟨vr, rfl, hor, hgr⟩
      rw [addk_8] at hor
      have hcl : (compress (sumk (pad l) k) ((pad l).drop i)).length = 8 := compress_len _ _
      obtain ⟨gr, capr, rfl, _, hgrs, _, _, hrcell⟩ := own_form hor (by rw [wsl_len, hcl]; omega)
      rw [wsl_len, hcl] at hrcell ⊢
      have HRC := Lib.hid (fun j (hj : j < 8) => (hrcell j hj).trans (wsl_get _ j (by rw [hcl]; exact hj)))
      have HG5 := Lib.hid (HG4.out.trans hgr)
      clear hrcell hgr hor HC4 HG4 HWC
      go_wp2
      exact ⟨⟨k + 1, i + 64, gr, capr, by have := HIK.out; omega, by omega, by go_num, rfl, (by rw [HIK.out] at HRC; exact HRC.out), HG5.out⟩, by simp only [intOf]; omega⟩
    · obtain rfl : i = N := by omega
      have hsum : sum l = outk (sumk (pad l) k) 32 := by
        have := HK.out.1
        have := HIK.out
        unfold sum
        rw [show (pad l).length / 64 = k by omega]
      have HSUM := Lib.hid hsum
      obtain ⟨S, hS⟩ : ∃ S, sumk (pad l) k = S := ⟨_, rfl⟩
      have hSl : S.length = 8 := by rw [← hS, ← sumOf_range]; exact sumOf_len _ _
      rw [hS] at HC HSUM
      have q1 : wr.rowAt w.heap.size = iv id0 := by rw [Grew.rowAt HG.out _ z1]; exact r1
      have q2 : wr.rowFree w.heap.size = true := by rw [Grew.rowFree HG.out _ z1]; exact r2
      have HGW := Lib.hid (HG3.out.trans HG.out)
      have z4 : w.heap.size < wr.heap.size := by omega
      have z5 : g < wr.heap.size := World.block_lt_of_cell? wr _ (HC.out 0 (by omega))
      clear r1 r2 hp HCS3 HK hiN hn HG HG3 HIK hsum hS z1 z2 z3
      go_wp2
      go_loopw [7] (fun n wr2 => ∃ m : Nat, m ≤ 8 ∧ n = .int .i64 m ∧ wr2 = wr.alloc (.cells (iv (outk S (4 * m))) 24)) (fun n _ => 8 - (intOf n).toNat)
      case atStart => exact ⟨0, by omega, rfl, by rw [Nat.mul_zero, outk_0]⟩
      case round =>
        obtain ⟨m, hm, rfl, rfl⟩ := hrel
        by_cases hm8 : m < 8
        · have hlt : (m : Int) < 8 := by omega
          have hcx := HC.out m hm8
          have hx := u_bd (wordAt S m)
          have ol := outk_len S
          have w0 : wordByte S (4 * m) = (wordAt S m).toNat / 16777216 := by
            unfold wordByte
            rw [show 4 * m / 4 = m by omega, show 24 - 8 * (4 * m % 4) = 24 by omega]
            have := (wordAt S m).isLt
            omega
          have w1 : wordByte S (4 * m + 1) = (wordAt S m).toNat / 65536 % 256 := by
            unfold wordByte
            rw [show (4 * m + 1) / 4 = m by omega, show 24 - 8 * ((4 * m + 1) % 4) = 16 by omega]
          have w2 : wordByte S (4 * m + 2) = (wordAt S m).toNat / 256 % 256 := by
            unfold wordByte
            rw [show (4 * m + 2) / 4 = m by omega, show 24 - 8 * ((4 * m + 2) % 4) = 8 by omega]
          have w3 : wordByte S (4 * m + 3) = (wordAt S m).toNat % 256 := by
            unfold wordByte
            rw [show (4 * m + 3) / 4 = m by omega, show 24 - 8 * ((4 * m + 3) % 4) = 0 by omega, Nat.pow_zero, Nat.div_one]
          have s0 := iv_set' (outk S (4 * m)) (4 * m) (wordByte S (4 * m))
          have s1 := iv_set' (outk S (4 * m + 1)) (4 * m + 1) (wordByte S (4 * m + 1))
          have s2 := iv_set' (outk S (4 * m + 2)) (4 * m + 2) (wordByte S (4 * m + 2))
          have s3 := iv_set' (outk S (4 * m + 3)) (4 * m + 3) (wordByte S (4 * m + 3))
          rw [outk_set] at s0 s1 s2 s3
          have a0 := iv_at (outk S (4 * m)) (4 * m) (by rw [ol]; omega)
          have a1 := iv_at (outk S (4 * m + 1)) (4 * m + 1) (by rw [ol]; omega)
          have a2 := iv_at (outk S (4 * m + 2)) (4 * m + 2) (by rw [ol]; omega)
          have a3 := iv_at (outk S (4 * m + 3)) (4 * m + 3) (by rw [ol]; omega)
          obtain ⟨x, hxx⟩ : ∃ x, wordAt S m = x := ⟨_, rfl⟩
          rw [hxx] at hcx hx w0 w1 w2 w3
          have x1 := hx.1
          have x2 : u x ≤ 4294967295 := by omega
          have e0 : u x / 16777216 = ((wordByte S (4 * m) : Nat) : Int) := by rw [w0]; unfold u; omega
          have e1 : u x / 65536 % 256 = ((wordByte S (4 * m + 1) : Nat) : Int) := by rw [w1]; unfold u; omega
          have e2 : u x / 256 % 256 = ((wordByte S (4 * m + 2) : Nat) : Int) := by rw [w2]; unfold u; omega
          have e3 : u x % 256 = ((wordByte S (4 * m + 3) : Nat) : Int) := by rw [w3]; unfold u; omega
          have y0 := wordByte_lt S (4 * m)
          have y1 := wordByte_lt S (4 * m + 1)
          have y2 := wordByte_lt S (4 * m + 2)
          have y3 := wordByte_lt S (4 * m + 3)
          have i0 : 4 * (m : Int) < 32 := by omega
          have i1 : 4 * (m : Int) + 1 < 32 := by omega
          have i2 : 4 * (m : Int) + 2 < 32 := by omega
          have i3 : 4 * (m : Int) + 3 < 32 := by omega
          clear w0 w1 w2 w3 hxx hx hm hm8
          go_wp2
          exact ⟨⟨m + 1, by omega, by go_num, rfl⟩, by simp only [intOf]; omega⟩
        · obtain rfl : m = 8 := by omega
          have ol := outk_len S 32
          clear hm hm8
          go_wp2
          refine bodyPost_ret (id_result rfl _ rfl (l := outk S 32) ?_ ol) rfl ⟨by rw [HSUM.out], (Grew.setRow_new HGW.out _ _ (Nat.le_refl _)).alloc _⟩
          rw [rowAt_alloc_past _ _ _ (by rw [setRow_size]; exact z4), rowAt_setRow_free _ _ _ q2]
end Go.Proofs.Ytnhcamklammcdaa
/- The document's Of. -/
namespace Go.Proofs.Ytnhcamklammcdaa
set_option linter.unusedVariables false
set_option linter.unusedSimpArgs false
open Go.RowKit
theorem catk_step' (ls : List (List Nat)) (k : Nat) (h : k < ls.length) : bys (catk ls (k + 1)) = bys (catk ls k) ++ bys (ls.getD k []) := by rw [catk_succ ls k h, bys_append]
set_option maxRecDepth 100000 in
set_option maxHeartbeats 6400000 in
theorem rof_w (ls : List (List Nat)) (v : Value) (w : World) (hb : ∀ l ∈ ls, ∀ x ∈ l, x < 256) (hn : ls.length ≤ 1000000) (hl : ∀ k, (catk ls k).length ≤ 1000000) (hv : RowsAt w v ls) :
    Calls Try.prog 42 #[v] w fun e w' => e = .returned (.agg (iv (sum ls.flatten))) ∧ Grew w w' := by
  obtain ⟨ib, hi, hz, hsz, hby⟩ := info_b
  obtain ⟨vs, hv1, hv2, hv3⟩ := hv
  obtain ⟨p, c, rfl⟩ := shows_form hv2
  rw [hv1] at hv2 ⊢
  have HV1 := Lib.hid hv1
  have HV2 := Lib.hid hv2
  have HV3 := Lib.hid hv3
  have HB := Lib.hid hb
  have HL := Lib.hid hl
  have hsl := sum_len ls.flatten
  obtain ⟨N, hN⟩ : ∃ N, ls.length = N := ⟨_, rfl⟩
  have HN := Lib.hid hN
  rw [hN] at hn hv2 HV2 ⊢
  clear hv1 hv2 hv3 hb hl hN
  go_enter Try.func42, Try.ntmps42
  go_wp2
  obtain ⟨A, hA⟩ : ∃ A, w.alloc (.cells (iv id0) 24) = A := ⟨_, rfl⟩
  have gA : Grew w A := by rw [← hA]; exact (by repeat (first | with_reducible exact Grew.refl _ | with_reducible apply Grew.alloc | with_reducible apply Grew.grow | with_reducible apply Grew.drew | with_reducible apply Grew.drewN))
  have sA : A.heap.size = w.heap.size + 1 := by rw [← hA]; simp
  have r0 : A.rowAt w.heap.size = iv id0 := by rw [← hA]; simp [go_sem]
  have f0 : A.rowFree w.heap.size = true := by rw [← hA]; simp [go_sem]
  rw [hA]
  have GA := Lib.hid gA
  have R0 := Lib.hid r0
  have F0 := Lib.hid f0
  clear hA gA r0 f0
  go_loopw [4, 3] (fun i v wr => ∃ m : Nat, m ≤ N ∧ i = .int .i64 m ∧ OwnR wr A.heap.size 5 v (bys (catk ls m)) ∧ Grew A wr) (fun i _ _ => N - (intOf i).toNat)
  case atStart => exact ⟨0, by omega, rfl, OwnR.nil _ _ _, Grew.refl _⟩
  case round =>
    obtain ⟨m, hm, rfl, ho, hg⟩ := hrel
    have HO := Lib.hid ho
    have HG := Lib.hid hg
    have GW := Lib.hid (GA.out.trans hg)
    clear ho hg
    by_cases hmN : m < N
    · have hlt : (m : Int) < (N : Int) := by omega
      have hrow := (HV3.out m (by rw [HN.out]; exact hmN)).grew GW.out
      obtain ⟨b, o, hp, hbw, hcell⟩ : ∃ b o, p = some ⟨b, o, none⟩ ∧ b < w.heap.size ∧ w.cell? ⟨b, o + m, none⟩ = some (vs.getD m undef) := by
        rcases HV2.out with ⟨b, o, c2, he, hb2, hc⟩ | ⟨p2, c2, he, h0⟩
        · simp only [Value.slice.injEq] at he
          exact ⟨b, o, he.1, hb2, hc m _ (by simp [List.getD, HV1.out, HN.out, hmN])⟩
        · exfalso
          have := HV1.out
          rw [h0] at this
          simp at this
          have := HN.out
          omega
      subst hp
      have hcell2 := GW.out.cell hcell
      have hstep := Lib.hid (catk_step' ls m (by rw [HN.out]; exact hmN))
      have hlen1 := HL.out m
      have hlen2 := HL.out (m + 1)
      rw [catk_len ls m (by rw [HN.out]; exact hmN)] at hlen2
      obtain ⟨x, hx⟩ : ∃ x, ls.getD m [] = x := ⟨_, rfl⟩
      rw [hx] at hrow hstep hlen2
      obtain ⟨u, hu⟩ : ∃ u, vs.getD m undef = u := ⟨_, rfl⟩
      rw [hu] at hrow hcell hcell2
      obtain ⟨pu, cu, rfl⟩ := shows_form hrow
      have HR := Lib.hid hrow
      have hNI : (N : Int) ≤ 1000000 := by omega
      clear hx hu hcell hrow hn hm
      go_wp2_with (at_builtin; refine stop_of ?_)
      unfold Stop
      refine wpList_appends rfl _ _ _ rfl _ ib _ 1 under_bs hi hz hsz hby rfl A _ _ _ rfl rfl _ (bys x) HG.out (by exact HO.out) (by exact HR.out) (bys_one x) (by rw [bys_len, bys_len]; simp only [maxLen]; omega) (by rw [bys_len, bys_len]; omega) ?_
      intro v2 w3 ho2 hg2
      rw [← hstep.out] at ho2
      go_wp2
      exact ⟨⟨m + 1, by omega, by go_num, ho2, hg2⟩, by simp only [intOf]; omega⟩
    · obtain rfl : m = N := by omega
      have hge : ¬ ((m : Int) < (m : Int)) := by omega
      have hall := catk_all ls
      rw [HN.out] at hall
      rw [hall] at HO
      have hfl : ls.flatten.length ≤ 1000000 := by rw [← hall]; exact HL.out m
      have hfb : ∀ x ∈ ls.flatten, x < 256 := fun x hx => by
        obtain ⟨l, hl1, hl2⟩ := List.mem_flatten.1 hx
        exact HB.out l hl1 x hl2
      have C1 := Lib.hid (fun W v (h : Shows W v (bys ls.flatten)) => rsum_w ls.flatten v W (by omega) hfb h)
      have r2 : wr.rowAt w.heap.size = iv id0 := by rw [Grew.rowAt HG.out _ (by omega)]; exact R0.out
      have f2 : wr.rowFree w.heap.size = true := by rw [Grew.rowFree HG.out _ (by omega)]; exact F0.out
      have hlt2 : w.heap.size < wr.heap.size := by have := HG.out.size; omega
      clear hm hmN hn sA hall hfl hfb
      go_wp2_with (go_at_call 46; refine (C1.out _ _ HO.out.shows).mono ?_; rintro e w' ⟨rfl, δ, rfl⟩)
      refine bodyPost_ret (id_result rfl _ rfl (l := sum ls.flatten) ?_ hsl) rfl ⟨rfl, ?_⟩
      · rw [rowAt_grow_old _ _ _ (by rw [setRow_size]; exact hlt2), rowAt_setRow_free _ _ _ f2]
      · exact (Grew.setRow_new GW.out _ _ (Nat.le_refl _)).grow _
end Go.Proofs.Ytnhcamklammcdaa
/- mmr's Join, and the document's (printed by gen_mmr2.py). -/
namespace Go.Proofs.Ytnhcamklammcdaa
set_option linter.unusedVariables false
set_option linter.unusedSimpArgs false
open Go.RowKit
set_option maxRecDepth 100000
theorem wrap_lo (x : Int) : -9223372036854775808 ≤ wrap64 x := by unfold wrap64; omega
theorem wrap_hi (x : Int) : wrap64 x ≤ 9223372036854775807 := by unfold wrap64; omega
/-- What Join sums. -/
def joinL (a b : Tot) : List Nat := 3 :: (a.text ++ b.text)
theorem joinL_lt (a b : Tot) : ∀ c ∈ joinL a b, c < 256 := by
  intro c hc
  simp only [joinL, List.mem_cons, List.mem_append] at hc
  rcases hc with rfl | hc | hc
  · omega
  · exact a.text_lt c hc
  · exact b.text_lt c hc
theorem joinL_len (a b : Tot) : (joinL a b).length = 137 := by simp [joinL, a.text_len, b.text_len]
noncomputable def Tot.join (a b : Tot) : Tot := ⟨Idb.sum (joinL a b), a.w.add b.w, wrap64 (a.n + b.n), wrap_lo _, wrap_hi _⟩
theorem rows_3 (X : World) (δ ε : Junk) (x y z : Value) (a b c : List Nat) (h1 : Shows X x (bys a)) (h2 : Shows X y (bys b)) (h3 : Shows X z (bys c)) : RowsAt (((X.grow δ).alloc (.cells #[x, y, z] 65)).grow ε) (.slice (some ⟨X.heap.size + δ.n, 0, none⟩) 3 3) [a, b, c] := by
  have sz := size_grow X δ
  have o := shows_alloc (X.grow δ) [x, y, z] 65 3
  rw [sz] at o
  have g : Grew X (((X.grow δ).alloc (.cells #[x, y, z] 65)).grow ε) := (by repeat (first | with_reducible exact Grew.refl _ | with_reducible apply Grew.alloc | with_reducible apply Grew.grow | with_reducible apply Grew.drew | with_reducible apply Grew.drewN))
  have g' : Grew ((X.grow δ).alloc (.cells #[x, y, z] 65)) (((X.grow δ).alloc (.cells #[x, y, z] 65)).grow ε) := ⟨ε, rfl⟩
  refine ⟨[x, y, z], rfl, Shows.grew o g', fun k hk => ?_⟩
  have hk : k < 3 := hk
  match k, hk with
  | 0, _ => exact h1.grew g
  | 1, _ => exact h2.grew g
  | 2, _ => exact h3.grew g
theorem join_lt (a b : Tot) : ∀ l ∈ [[3], a.text, b.text], ∀ x ∈ l, x < 256 := by
  intro l hl x hx
  simp only [List.mem_cons, List.not_mem_nil, or_false] at hl
  rcases hl with rfl | rfl | rfl
  · simp at hx; omega
  · exact a.text_lt x hx
  · exact b.text_lt x hx
theorem join_flat (a b : Tot) : ([[3], a.text, b.text] : List (List Nat)).flatten = joinL a b := by simp [joinL]
theorem join_catk (a b : Tot) (k : Nat) : (catk [[3], a.text, b.text] k).length ≤ 1000000 := by
  have h1 := a.text_len
  have h2 := b.text_len
  match k with
  | 0 => simp [catk]
  | 1 => simp [catk]
  | 2 => simp [catk, h1]
  | k + 3 => simp [catk, h1, h2]
theorem join_of (a b : Tot) (v : Value) (w : World) (hv : RowsAt w v [[3], a.text, b.text]) :
    Calls Try.prog 40 #[v] w fun e w' => e = .returned (.agg (iv (Tot.join a b).h.l)) ∧ Grew w w' := by
  have := of_w [[3], a.text, b.text] v w (join_lt a b) (by simp) (by rw [join_flat, joinL_len]; omega) hv
  rwa [join_flat] at this
theorem join_rof (a b : Tot) (v : Value) (w : World) (hv : RowsAt w v [[3], a.text, b.text]) :
    Calls Try.prog 42 #[v] w fun e w' => e = .returned (.agg (iv (Tot.join a b).h.l)) ∧ Grew w w' := by
  have := rof_w [[3], a.text, b.text] v w (join_lt a b) (by simp) (join_catk a b) hv
  rwa [join_flat] at this

theorem made_3 (w : World) (δ : Junk) : Shows ((w.grow δ).alloc (.cells #[.int .u8 3] 5)) (.slice (some ⟨w.heap.size + δ.n, 0, none⟩) 1 1) (bys [3]) := by
  have o := shows_alloc (w.grow δ) [.int .u8 3] 5 1
  rw [size_grow] at o
  exact o
set_option maxHeartbeats 6400000 in
theorem join_w (a b : Tot) (w : World) :
    Calls Try.prog 20 #[.agg (ta a.h.l a.w.n a.n), .agg (ta b.h.l b.w.n b.n)] w fun e w' => e = .returned (Tot.join a b).v ∧ Grew w w' := by
  have ha := a.h.len
  have hb := b.h.len
  have hj := (Tot.join a b).h.len
  go_enter Try.func20, Try.ntmps20
  go_wp2_with (go_at_call 24; refine (wadd_w a.w b.w _).mono ?_; rintro e w' ⟨rfl, δ, rfl⟩)
  refine wp_region_flowX [14] (by kernel_rfl) ?_
  intro δf
  refine flowX_abs ?_
  intro Y hY
  have ra : Y.rowAt w.heap.size = ta a.h.l a.w.n a.n := by rw [hY]; simp [go_sem]
  have rb : Y.rowAt (w.heap.size + 1) = ta b.h.l b.w.n b.n := by rw [hY]; simp [go_sem]
  have rr : Y.rowAt (w.heap.size + 1 + 1) = ta id0 0 0 := by rw [hY]; simp [go_sem]
  have fr : Y.rowFree (w.heap.size + 1 + 1) = true := by rw [hY]; simp [go_sem]
  have rw4 : Y.rowAt (w.heap.size + 1 + 1 + 1 + δ.n) = wv (a.w.add b.w).n := by rw [hY]; simp [go_sem]
  have g0 : Grew w Y := by rw [hY]; exact (by repeat (first | with_reducible exact Grew.refl _ | with_reducible apply Grew.alloc | with_reducible apply Grew.grow | with_reducible apply Grew.drew | with_reducible apply Grew.drewN))
  have z0 : Y.heap.size = w.heap.size + 1 + 1 + 1 + δ.n + 1 + δf.n := by rw [hY]; simp
  have lt1 : w.heap.size < Y.heap.size := by omega
  have lt2 : w.heap.size + 1 < Y.heap.size := by omega
  have lt3 : w.heap.size + 1 + 1 < Y.heap.size := by omega
  obtain ⟨g4, hg4⟩ : ∃ g4, w.heap.size + 1 + 1 + 1 + δ.n = g4 := ⟨_, rfl⟩
  have lt4 : g4 < Y.heap.size := by omega
  rw [hg4] at rw4 ⊢
  have ca : Y.cell? ⟨w.heap.size, 36, none⟩ = some (.int .i64 a.n) := by rw [cell_rowAt, ra]; exact ta_n _ _ _ ha
  have cb : Y.cell? ⟨w.heap.size + 1, 36, none⟩ = some (.int .i64 b.n) := by rw [cell_rowAt, rb]; exact ta_n _ _ _ hb
  have G0 := Lib.hid g0
  have RR := Lib.hid (And.intro rr fr)
  have LT := Lib.hid lt3
  clear hY g0 z0 hg4 rr fr
  apply wpFlowX_quiets [1,3,7,8,9,10,11,12] (by decide +kernel) (by decide +kernel) (by kernel_rfl) (by intro _ _ _ d _ h; cases d <;> exact h) _
  · intro A hA δ'
    simp only [pickOps_cons, pickOps_nil, pick1_zero, pick1_succ]
    repeat (go_big_quiet_step ((fail)))
    exact wpQuiet_nil hA.out.symm
  clear ca cb ra rb rw4 lt1 lt2 lt4 lt3
  refine wpFlowX_two 0 2 (by decide +kernel) (by kernel_rfl) (by decide +kernel) (by decide +kernel) ?_ ?_
  unfold wpFlowXS
  simp only [pickOps_cons, pickOps_nil, pick1_zero, pick1_succ]
  intro δf
  go_wp2_with (fail)
  refine ⟨(by first | assumption | (simp only [grow_grow, Array.append_assoc]; assumption) | exact Grew.refl _ | (simp only [grow_grow, Array.append_assoc]; exact (by repeat (first | with_reducible exact Grew.refl _ | with_reducible apply Grew.alloc | with_reducible apply Grew.grow | with_reducible apply Grew.drew | with_reducible apply Grew.drewN))) | exact (by repeat (first | with_reducible exact Grew.refl _ | with_reducible apply Grew.alloc | with_reducible apply Grew.grow | with_reducible apply Grew.drew | with_reducible apply Grew.drewN))), ?_⟩
  refine flowX_abs ?_
  intro W1 hE
  have gW1 : Grew Y W1 := by rw [hE]; exact (by repeat (first | with_reducible exact Grew.refl _ | with_reducible apply Grew.alloc | with_reducible apply Grew.grow | with_reducible apply Grew.drew | with_reducible apply Grew.drewN))
  have s3 : Shows W1 (.slice (some ⟨Y.heap.size + δf.n, 0, none⟩) 1 1) (bys [3]) := by rw [hE]; exact made_3 _ _
  obtain ⟨b3, hb3⟩ : ∃ b3, Y.heap.size + δf.n = b3 := ⟨_, rfl⟩
  rw [hb3] at s3 ⊢
  have S3 := Lib.hid s3
  have GW1 := Lib.hid gW1
  clear hE hb3 s3 gW1
  refine wpFlowX_one 2 (by decide +kernel) (by kernel_rfl) (by decide +kernel) (by decide +kernel) ?_
  simp only [pickOps_cons, pickOps_nil, pick1_zero, pick1_succ]
  intro δf
  go_wp2_with (go_at_call 41; refine (mtext_w a _).mono ?_; rintro e W2 ⟨va, rfl, ho, hg⟩)
  refine ⟨(by first | assumption | (simp only [grow_grow, Array.append_assoc]; assumption) | exact Grew.refl _ | (simp only [grow_grow, Array.append_assoc]; exact (by repeat (first | with_reducible exact Grew.refl _ | with_reducible apply Grew.alloc | with_reducible apply Grew.grow | with_reducible apply Grew.drew | with_reducible apply Grew.drewN))) | exact (by repeat (first | with_reducible exact Grew.refl _ | with_reducible apply Grew.alloc | with_reducible apply Grew.grow | with_reducible apply Grew.drew | with_reducible apply Grew.drewN))), ?_⟩
  obtain ⟨pa, ca, rfl⟩ := shows_form ho.shows
  have SA := Lib.hid ho.shows
  have GW2 := Lib.hid ((show Grew W1 _ from (by repeat (first | with_reducible exact Grew.refl _ | with_reducible apply Grew.alloc | with_reducible apply Grew.grow | with_reducible apply Grew.drew | with_reducible apply Grew.drewN))).trans hg)
  clear ho hg
  refine wpFlowX_one 4 (by decide +kernel) (by kernel_rfl) (by decide +kernel) (by decide +kernel) ?_
  simp only [pickOps_cons, pickOps_nil, pick1_zero, pick1_succ]
  intro δf
  go_wp2_with (go_at_call 41; refine (mtext_w b _).mono ?_; rintro e W ⟨vb, rfl, ho, hg⟩)
  refine ⟨(by first | assumption | (simp only [grow_grow, Array.append_assoc]; assumption) | exact Grew.refl _ | (simp only [grow_grow, Array.append_assoc]; exact (by repeat (first | with_reducible exact Grew.refl _ | with_reducible apply Grew.alloc | with_reducible apply Grew.grow | with_reducible apply Grew.drew | with_reducible apply Grew.drewN))) | exact (by repeat (first | with_reducible exact Grew.refl _ | with_reducible apply Grew.alloc | with_reducible apply Grew.grow | with_reducible apply Grew.drew | with_reducible apply Grew.drewN))), ?_⟩
  obtain ⟨pb, cb, rfl⟩ := shows_form ho.shows
  have SB := Lib.hid ho.shows
  have GW := Lib.hid ((show Grew W2 _ from (by repeat (first | with_reducible exact Grew.refl _ | with_reducible apply Grew.alloc | with_reducible apply Grew.grow | with_reducible apply Grew.drew | with_reducible apply Grew.drewN))).trans hg)
  clear ho hg
  have S3' := Lib.hid ((S3.out.grew GW2.out).grew GW.out)
  have SA' := Lib.hid (SA.out.grew GW.out)
  have SB' := SB
  have GY := Lib.hid (GW1.out.trans (GW2.out.trans GW.out))
  clear S3 SA SB GW1 GW2 GW
  rotate_left
  unfold wpFlowXS
  simp only [pickOps_cons, pickOps_nil, pick1_zero, pick1_succ]
  intro δf
  go_wp2_with (go_at_call 41; refine (mtext_w a _).mono ?_; rintro e W1 ⟨va, rfl, ho, hg⟩)
  refine ⟨(by first | assumption | (simp only [grow_grow, Array.append_assoc]; assumption) | exact Grew.refl _ | (simp only [grow_grow, Array.append_assoc]; exact (by repeat (first | with_reducible exact Grew.refl _ | with_reducible apply Grew.alloc | with_reducible apply Grew.grow | with_reducible apply Grew.drew | with_reducible apply Grew.drewN))) | exact (by repeat (first | with_reducible exact Grew.refl _ | with_reducible apply Grew.alloc | with_reducible apply Grew.grow | with_reducible apply Grew.drew | with_reducible apply Grew.drewN))), ?_⟩
  obtain ⟨pa, ca, rfl⟩ := shows_form ho.shows
  have SA := Lib.hid ho.shows
  have GW1 := Lib.hid ((show Grew Y _ from (by repeat (first | with_reducible exact Grew.refl _ | with_reducible apply Grew.alloc | with_reducible apply Grew.grow | with_reducible apply Grew.drew | with_reducible apply Grew.drewN))).trans hg)
  clear ho hg
  refine wpFlowX_two 0 4 (by decide +kernel) (by kernel_rfl) (by decide +kernel) (by decide +kernel) ?_ ?_
  unfold wpFlowXS
  simp only [pickOps_cons, pickOps_nil, pick1_zero, pick1_succ]
  intro δf
  go_wp2_with (fail)
  refine ⟨(by first | assumption | (simp only [grow_grow, Array.append_assoc]; assumption) | exact Grew.refl _ | (simp only [grow_grow, Array.append_assoc]; exact (by repeat (first | with_reducible exact Grew.refl _ | with_reducible apply Grew.alloc | with_reducible apply Grew.grow | with_reducible apply Grew.drew | with_reducible apply Grew.drewN))) | exact (by repeat (first | with_reducible exact Grew.refl _ | with_reducible apply Grew.alloc | with_reducible apply Grew.grow | with_reducible apply Grew.drew | with_reducible apply Grew.drewN))), ?_⟩
  refine flowX_abs ?_
  intro W2 hE
  have gW2 : Grew W1 W2 := by rw [hE]; exact (by repeat (first | with_reducible exact Grew.refl _ | with_reducible apply Grew.alloc | with_reducible apply Grew.grow | with_reducible apply Grew.drew | with_reducible apply Grew.drewN))
  have s3 : Shows W2 (.slice (some ⟨W1.heap.size + δf.n, 0, none⟩) 1 1) (bys [3]) := by rw [hE]; exact made_3 _ _
  obtain ⟨b3, hb3⟩ : ∃ b3, W1.heap.size + δf.n = b3 := ⟨_, rfl⟩
  rw [hb3] at s3 ⊢
  have S3 := Lib.hid s3
  have GW2 := Lib.hid gW2
  clear hE hb3 s3 gW2
  refine wpFlowX_one 4 (by decide +kernel) (by kernel_rfl) (by decide +kernel) (by decide +kernel) ?_
  simp only [pickOps_cons, pickOps_nil, pick1_zero, pick1_succ]
  intro δf
  go_wp2_with (go_at_call 41; refine (mtext_w b _).mono ?_; rintro e W ⟨vb, rfl, ho, hg⟩)
  refine ⟨(by first | assumption | (simp only [grow_grow, Array.append_assoc]; assumption) | exact Grew.refl _ | (simp only [grow_grow, Array.append_assoc]; exact (by repeat (first | with_reducible exact Grew.refl _ | with_reducible apply Grew.alloc | with_reducible apply Grew.grow | with_reducible apply Grew.drew | with_reducible apply Grew.drewN))) | exact (by repeat (first | with_reducible exact Grew.refl _ | with_reducible apply Grew.alloc | with_reducible apply Grew.grow | with_reducible apply Grew.drew | with_reducible apply Grew.drewN))), ?_⟩
  obtain ⟨pb, cb, rfl⟩ := shows_form ho.shows
  have SB := Lib.hid ho.shows
  have GW := Lib.hid ((show Grew W2 _ from (by repeat (first | with_reducible exact Grew.refl _ | with_reducible apply Grew.alloc | with_reducible apply Grew.grow | with_reducible apply Grew.drew | with_reducible apply Grew.drewN))).trans hg)
  clear ho hg
  have S3' := Lib.hid (S3.out.grew GW.out)
  have SA' := Lib.hid ((SA.out.grew GW2.out).grew GW.out)
  have SB' := SB
  have GY := Lib.hid (GW1.out.trans (GW2.out.trans GW.out))
  clear S3 SA SB GW1 GW2 GW
  rotate_left
  unfold wpFlowXS
  simp only [pickOps_cons, pickOps_nil, pick1_zero, pick1_succ]
  intro δf
  go_wp2_with (go_at_call 41; refine (mtext_w b _).mono ?_; rintro e W2 ⟨vb, rfl, ho, hg⟩)
  refine ⟨(by first | assumption | (simp only [grow_grow, Array.append_assoc]; assumption) | exact Grew.refl _ | (simp only [grow_grow, Array.append_assoc]; exact (by repeat (first | with_reducible exact Grew.refl _ | with_reducible apply Grew.alloc | with_reducible apply Grew.grow | with_reducible apply Grew.drew | with_reducible apply Grew.drewN))) | exact (by repeat (first | with_reducible exact Grew.refl _ | with_reducible apply Grew.alloc | with_reducible apply Grew.grow | with_reducible apply Grew.drew | with_reducible apply Grew.drewN))), ?_⟩
  obtain ⟨pb, cb, rfl⟩ := shows_form ho.shows
  have SB := Lib.hid ho.shows
  have GW2 := Lib.hid ((show Grew W1 _ from (by repeat (first | with_reducible exact Grew.refl _ | with_reducible apply Grew.alloc | with_reducible apply Grew.grow | with_reducible apply Grew.drew | with_reducible apply Grew.drewN))).trans hg)
  clear ho hg
  refine wpFlowX_one 0 (by decide +kernel) (by kernel_rfl) (by decide +kernel) (by decide +kernel) ?_
  simp only [pickOps_cons, pickOps_nil, pick1_zero, pick1_succ]
  intro δf
  go_wp2_with (fail)
  refine ⟨(by first | assumption | (simp only [grow_grow, Array.append_assoc]; assumption) | exact Grew.refl _ | (simp only [grow_grow, Array.append_assoc]; exact (by repeat (first | with_reducible exact Grew.refl _ | with_reducible apply Grew.alloc | with_reducible apply Grew.grow | with_reducible apply Grew.drew | with_reducible apply Grew.drewN))) | exact (by repeat (first | with_reducible exact Grew.refl _ | with_reducible apply Grew.alloc | with_reducible apply Grew.grow | with_reducible apply Grew.drew | with_reducible apply Grew.drewN))), ?_⟩
  refine flowX_abs ?_
  intro W hE
  have gW : Grew W2 W := by rw [hE]; exact (by repeat (first | with_reducible exact Grew.refl _ | with_reducible apply Grew.alloc | with_reducible apply Grew.grow | with_reducible apply Grew.drew | with_reducible apply Grew.drewN))
  have s3 : Shows W (.slice (some ⟨W2.heap.size + δf.n, 0, none⟩) 1 1) (bys [3]) := by rw [hE]; exact made_3 _ _
  obtain ⟨b3, hb3⟩ : ∃ b3, W2.heap.size + δf.n = b3 := ⟨_, rfl⟩
  rw [hb3] at s3 ⊢
  have S3 := Lib.hid s3
  have GW := Lib.hid gW
  clear hE hb3 s3 gW
  have S3' := S3
  have SA' := Lib.hid ((SA.out.grew GW2.out).grew GW.out)
  have SB' := Lib.hid (SB.out.grew GW.out)
  have GY := Lib.hid (GW1.out.trans (GW2.out.trans GW.out))
  clear S3 SA SB GW1 GW2 GW
  all_goals
    refine wpFlowX_one 5 (by decide +kernel) (by kernel_rfl) (by decide +kernel) (by decide +kernel) ?_
    simp only [pickOps_cons, pickOps_nil, pick1_zero, pick1_succ]
    intro δf
    go_wp2_with (fail)
    refine ⟨(by first | assumption | (simp only [grow_grow, Array.append_assoc]; assumption) | exact Grew.refl _ | (simp only [grow_grow, Array.append_assoc]; exact (by repeat (first | with_reducible exact Grew.refl _ | with_reducible apply Grew.alloc | with_reducible apply Grew.grow | with_reducible apply Grew.drew | with_reducible apply Grew.drewN))) | exact (by repeat (first | with_reducible exact Grew.refl _ | with_reducible apply Grew.alloc | with_reducible apply Grew.grow | with_reducible apply Grew.drew | with_reducible apply Grew.drewN))), ?_⟩
    refine wpFlowX_one 6 (by decide +kernel) (by kernel_rfl) (by decide +kernel) (by decide +kernel) ?_
    simp only [pickOps_cons, pickOps_nil, pick1_zero, pick1_succ]
    intro δf
    go_wp2_with (go_at_call 40; refine (join_of a b _ _ (rows_3 W _ _ _ _ _ [3] a.text b.text S3'.out SA'.out SB'.out)).mono ?_; rintro e W5 ⟨rfl, hg⟩)
    refine ⟨(by first | assumption | (simp only [grow_grow, Array.append_assoc]; assumption) | exact Grew.refl _ | (simp only [grow_grow, Array.append_assoc]; exact (by repeat (first | with_reducible exact Grew.refl _ | with_reducible apply Grew.alloc | with_reducible apply Grew.grow | with_reducible apply Grew.drew | with_reducible apply Grew.drewN))) | exact (by repeat (first | with_reducible exact Grew.refl _ | with_reducible apply Grew.alloc | with_reducible apply Grew.grow | with_reducible apply Grew.drew | with_reducible apply Grew.drewN))), ?_⟩
    have g5 := Lib.hid (GY.out.trans ((show Grew W _ from (by repeat (first | with_reducible exact Grew.refl _ | with_reducible apply Grew.alloc | with_reducible apply Grew.grow | with_reducible apply Grew.drew | with_reducible apply Grew.drewN))).trans hg))
    clear hg
    apply wpFlowX_quiets [13] (by decide +kernel) (by decide +kernel) (by kernel_rfl) (by intro _ _ _ d _ h; cases d <;> exact h) _
    · intro A hA δ'
      simp only [pickOps_cons, pickOps_nil, pick1_zero, pick1_succ]
      repeat (go_big_quiet_step ((fail)))
      exact wpQuiet_nil hA.out.symm
    have rr5 : W5.rowAt (w.heap.size + 1 + 1) = ta id0 0 0 := by rw [Grew.rowAt g5.out _ LT.out]; exact RR.out.1
    have fr5 : W5.rowFree (w.heap.size + 1 + 1) = true := by rw [Grew.rowFree g5.out _ LT.out]; exact RR.out.2
    have lt5 : w.heap.size + 1 + 1 < W5.heap.size := Nat.lt_of_lt_of_le LT.out g5.out.size
    have zid := id0_len
    refine wpFlowX_esc 14 (by decide +kernel) (by kernel_rfl) (by decide +kernel) (by decide +kernel) ?_
    simp only [pickOps_cons, pickOps_nil, pick1_zero, pick1_succ]
    intro δf
    go_wp2
    refine wpAny_end (by decide +kernel) (by kernel_rfl) ?_
    go_wp2
    refine bodyPost_ret (v := (Tot.join a b).v) (tot_result Try.results20 _ rfl (h := (Tot.join a b).h.l) (x := (a.w.add b.w).n) (n := wrap64 (a.n + b.n)) ?_ hj) rfl ⟨rfl, ?_⟩
    · rw [rowAt_grow_old _ _ _ (by rw [setRow_size]; exact lt5), rowAt_setRow_free _ _ _ fr5]
    · exact (Grew.setRow_new (G0.out.trans g5.out) _ _ (by omega)).grow _
set_option maxHeartbeats 6400000 in
theorem rjoin_w (a b : Tot) (w : World) :
    Calls Try.prog 21 #[.agg (ta a.h.l a.w.n a.n), .agg (ta b.h.l b.w.n b.n)] w fun e w' => e = .returned (Tot.join a b).v ∧ Grew w w' := by
  have ha := a.h.len
  have hb := b.h.len
  have hj := (Tot.join a b).h.len
  go_enter Try.func21, Try.ntmps21
  go_wp2_with (go_at_call 36; refine (radd_w a.w b.w _).mono ?_; rintro e w' ⟨rfl, δ, rfl⟩)
  refine wp_region_flowX [14] (by kernel_rfl) ?_
  intro δf
  refine flowX_abs ?_
  intro Y hY
  have ra : Y.rowAt w.heap.size = ta a.h.l a.w.n a.n := by rw [hY]; simp [go_sem]
  have rb : Y.rowAt (w.heap.size + 1) = ta b.h.l b.w.n b.n := by rw [hY]; simp [go_sem]
  have rr : Y.rowAt (w.heap.size + 1 + 1) = ta id0 0 0 := by rw [hY]; simp [go_sem]
  have fr : Y.rowFree (w.heap.size + 1 + 1) = true := by rw [hY]; simp [go_sem]
  have rw4 : Y.rowAt (w.heap.size + 1 + 1 + 1 + δ.n) = wv (a.w.add b.w).n := by rw [hY]; simp [go_sem]
  have g0 : Grew w Y := by rw [hY]; exact (by repeat (first | with_reducible exact Grew.refl _ | with_reducible apply Grew.alloc | with_reducible apply Grew.grow | with_reducible apply Grew.drew | with_reducible apply Grew.drewN))
  have z0 : Y.heap.size = w.heap.size + 1 + 1 + 1 + δ.n + 1 + δf.n := by rw [hY]; simp
  have lt1 : w.heap.size < Y.heap.size := by omega
  have lt2 : w.heap.size + 1 < Y.heap.size := by omega
  have lt3 : w.heap.size + 1 + 1 < Y.heap.size := by omega
  obtain ⟨g4, hg4⟩ : ∃ g4, w.heap.size + 1 + 1 + 1 + δ.n = g4 := ⟨_, rfl⟩
  have lt4 : g4 < Y.heap.size := by omega
  rw [hg4] at rw4 ⊢
  have ca : Y.cell? ⟨w.heap.size, 36, none⟩ = some (.int .i64 a.n) := by rw [cell_rowAt, ra]; exact ta_n _ _ _ ha
  have cb : Y.cell? ⟨w.heap.size + 1, 36, none⟩ = some (.int .i64 b.n) := by rw [cell_rowAt, rb]; exact ta_n _ _ _ hb
  have G0 := Lib.hid g0
  have RR := Lib.hid (And.intro rr fr)
  have LT := Lib.hid lt3
  clear hY g0 z0 hg4 rr fr
  apply wpFlowX_quiets [1,3,7,8,9,10,11,12] (by decide +kernel) (by decide +kernel) (by kernel_rfl) (by intro _ _ _ d _ h; cases d <;> exact h) _
  · intro A hA δ'
    simp only [pickOps_cons, pickOps_nil, pick1_zero, pick1_succ]
    repeat (go_big_quiet_step ((fail)))
    exact wpQuiet_nil hA.out.symm
  clear ca cb ra rb rw4 lt1 lt2 lt4 lt3
  refine wpFlowX_two 0 2 (by decide +kernel) (by kernel_rfl) (by decide +kernel) (by decide +kernel) ?_ ?_
  unfold wpFlowXS
  simp only [pickOps_cons, pickOps_nil, pick1_zero, pick1_succ]
  intro δf
  go_wp2_with (fail)
  refine ⟨(by first | assumption | (simp only [grow_grow, Array.append_assoc]; assumption) | exact Grew.refl _ | (simp only [grow_grow, Array.append_assoc]; exact (by repeat (first | with_reducible exact Grew.refl _ | with_reducible apply Grew.alloc | with_reducible apply Grew.grow | with_reducible apply Grew.drew | with_reducible apply Grew.drewN))) | exact (by repeat (first | with_reducible exact Grew.refl _ | with_reducible apply Grew.alloc | with_reducible apply Grew.grow | with_reducible apply Grew.drew | with_reducible apply Grew.drewN))), ?_⟩
  refine flowX_abs ?_
  intro W1 hE
  have gW1 : Grew Y W1 := by rw [hE]; exact (by repeat (first | with_reducible exact Grew.refl _ | with_reducible apply Grew.alloc | with_reducible apply Grew.grow | with_reducible apply Grew.drew | with_reducible apply Grew.drewN))
  have s3 : Shows W1 (.slice (some ⟨Y.heap.size + δf.n, 0, none⟩) 1 1) (bys [3]) := by rw [hE]; exact made_3 _ _
  obtain ⟨b3, hb3⟩ : ∃ b3, Y.heap.size + δf.n = b3 := ⟨_, rfl⟩
  rw [hb3] at s3 ⊢
  have S3 := Lib.hid s3
  have GW1 := Lib.hid gW1
  clear hE hb3 s3 gW1
  refine wpFlowX_one 2 (by decide +kernel) (by kernel_rfl) (by decide +kernel) (by decide +kernel) ?_
  simp only [pickOps_cons, pickOps_nil, pick1_zero, pick1_succ]
  intro δf
  go_wp2_with (go_at_call 43; refine (mrtext_w a _).mono ?_; rintro e W2 ⟨va, rfl, ho, hg⟩)
  refine ⟨(by first | assumption | (simp only [grow_grow, Array.append_assoc]; assumption) | exact Grew.refl _ | (simp only [grow_grow, Array.append_assoc]; exact (by repeat (first | with_reducible exact Grew.refl _ | with_reducible apply Grew.alloc | with_reducible apply Grew.grow | with_reducible apply Grew.drew | with_reducible apply Grew.drewN))) | exact (by repeat (first | with_reducible exact Grew.refl _ | with_reducible apply Grew.alloc | with_reducible apply Grew.grow | with_reducible apply Grew.drew | with_reducible apply Grew.drewN))), ?_⟩
  obtain ⟨pa, ca, rfl⟩ := shows_form ho.shows
  have SA := Lib.hid ho.shows
  have GW2 := Lib.hid ((show Grew W1 _ from (by repeat (first | with_reducible exact Grew.refl _ | with_reducible apply Grew.alloc | with_reducible apply Grew.grow | with_reducible apply Grew.drew | with_reducible apply Grew.drewN))).trans hg)
  clear ho hg
  refine wpFlowX_one 4 (by decide +kernel) (by kernel_rfl) (by decide +kernel) (by decide +kernel) ?_
  simp only [pickOps_cons, pickOps_nil, pick1_zero, pick1_succ]
  intro δf
  go_wp2_with (go_at_call 43; refine (mrtext_w b _).mono ?_; rintro e W ⟨vb, rfl, ho, hg⟩)
  refine ⟨(by first | assumption | (simp only [grow_grow, Array.append_assoc]; assumption) | exact Grew.refl _ | (simp only [grow_grow, Array.append_assoc]; exact (by repeat (first | with_reducible exact Grew.refl _ | with_reducible apply Grew.alloc | with_reducible apply Grew.grow | with_reducible apply Grew.drew | with_reducible apply Grew.drewN))) | exact (by repeat (first | with_reducible exact Grew.refl _ | with_reducible apply Grew.alloc | with_reducible apply Grew.grow | with_reducible apply Grew.drew | with_reducible apply Grew.drewN))), ?_⟩
  obtain ⟨pb, cb, rfl⟩ := shows_form ho.shows
  have SB := Lib.hid ho.shows
  have GW := Lib.hid ((show Grew W2 _ from (by repeat (first | with_reducible exact Grew.refl _ | with_reducible apply Grew.alloc | with_reducible apply Grew.grow | with_reducible apply Grew.drew | with_reducible apply Grew.drewN))).trans hg)
  clear ho hg
  have S3' := Lib.hid ((S3.out.grew GW2.out).grew GW.out)
  have SA' := Lib.hid (SA.out.grew GW.out)
  have SB' := SB
  have GY := Lib.hid (GW1.out.trans (GW2.out.trans GW.out))
  clear S3 SA SB GW1 GW2 GW
  rotate_left
  unfold wpFlowXS
  simp only [pickOps_cons, pickOps_nil, pick1_zero, pick1_succ]
  intro δf
  go_wp2_with (go_at_call 43; refine (mrtext_w a _).mono ?_; rintro e W1 ⟨va, rfl, ho, hg⟩)
  refine ⟨(by first | assumption | (simp only [grow_grow, Array.append_assoc]; assumption) | exact Grew.refl _ | (simp only [grow_grow, Array.append_assoc]; exact (by repeat (first | with_reducible exact Grew.refl _ | with_reducible apply Grew.alloc | with_reducible apply Grew.grow | with_reducible apply Grew.drew | with_reducible apply Grew.drewN))) | exact (by repeat (first | with_reducible exact Grew.refl _ | with_reducible apply Grew.alloc | with_reducible apply Grew.grow | with_reducible apply Grew.drew | with_reducible apply Grew.drewN))), ?_⟩
  obtain ⟨pa, ca, rfl⟩ := shows_form ho.shows
  have SA := Lib.hid ho.shows
  have GW1 := Lib.hid ((show Grew Y _ from (by repeat (first | with_reducible exact Grew.refl _ | with_reducible apply Grew.alloc | with_reducible apply Grew.grow | with_reducible apply Grew.drew | with_reducible apply Grew.drewN))).trans hg)
  clear ho hg
  refine wpFlowX_two 0 4 (by decide +kernel) (by kernel_rfl) (by decide +kernel) (by decide +kernel) ?_ ?_
  unfold wpFlowXS
  simp only [pickOps_cons, pickOps_nil, pick1_zero, pick1_succ]
  intro δf
  go_wp2_with (fail)
  refine ⟨(by first | assumption | (simp only [grow_grow, Array.append_assoc]; assumption) | exact Grew.refl _ | (simp only [grow_grow, Array.append_assoc]; exact (by repeat (first | with_reducible exact Grew.refl _ | with_reducible apply Grew.alloc | with_reducible apply Grew.grow | with_reducible apply Grew.drew | with_reducible apply Grew.drewN))) | exact (by repeat (first | with_reducible exact Grew.refl _ | with_reducible apply Grew.alloc | with_reducible apply Grew.grow | with_reducible apply Grew.drew | with_reducible apply Grew.drewN))), ?_⟩
  refine flowX_abs ?_
  intro W2 hE
  have gW2 : Grew W1 W2 := by rw [hE]; exact (by repeat (first | with_reducible exact Grew.refl _ | with_reducible apply Grew.alloc | with_reducible apply Grew.grow | with_reducible apply Grew.drew | with_reducible apply Grew.drewN))
  have s3 : Shows W2 (.slice (some ⟨W1.heap.size + δf.n, 0, none⟩) 1 1) (bys [3]) := by rw [hE]; exact made_3 _ _
  obtain ⟨b3, hb3⟩ : ∃ b3, W1.heap.size + δf.n = b3 := ⟨_, rfl⟩
  rw [hb3] at s3 ⊢
  have S3 := Lib.hid s3
  have GW2 := Lib.hid gW2
  clear hE hb3 s3 gW2
  refine wpFlowX_one 4 (by decide +kernel) (by kernel_rfl) (by decide +kernel) (by decide +kernel) ?_
  simp only [pickOps_cons, pickOps_nil, pick1_zero, pick1_succ]
  intro δf
  go_wp2_with (go_at_call 43; refine (mrtext_w b _).mono ?_; rintro e W ⟨vb, rfl, ho, hg⟩)
  refine ⟨(by first | assumption | (simp only [grow_grow, Array.append_assoc]; assumption) | exact Grew.refl _ | (simp only [grow_grow, Array.append_assoc]; exact (by repeat (first | with_reducible exact Grew.refl _ | with_reducible apply Grew.alloc | with_reducible apply Grew.grow | with_reducible apply Grew.drew | with_reducible apply Grew.drewN))) | exact (by repeat (first | with_reducible exact Grew.refl _ | with_reducible apply Grew.alloc | with_reducible apply Grew.grow | with_reducible apply Grew.drew | with_reducible apply Grew.drewN))), ?_⟩
  obtain ⟨pb, cb, rfl⟩ := shows_form ho.shows
  have SB := Lib.hid ho.shows
  have GW := Lib.hid ((show Grew W2 _ from (by repeat (first | with_reducible exact Grew.refl _ | with_reducible apply Grew.alloc | with_reducible apply Grew.grow | with_reducible apply Grew.drew | with_reducible apply Grew.drewN))).trans hg)
  clear ho hg
  have S3' := Lib.hid (S3.out.grew GW.out)
  have SA' := Lib.hid ((SA.out.grew GW2.out).grew GW.out)
  have SB' := SB
  have GY := Lib.hid (GW1.out.trans (GW2.out.trans GW.out))
  clear S3 SA SB GW1 GW2 GW
  rotate_left
  unfold wpFlowXS
  simp only [pickOps_cons, pickOps_nil, pick1_zero, pick1_succ]
  intro δf
  go_wp2_with (go_at_call 43; refine (mrtext_w b _).mono ?_; rintro e W2 ⟨vb, rfl, ho, hg⟩)
  refine ⟨(by first | assumption | (simp only [grow_grow, Array.append_assoc]; assumption) | exact Grew.refl _ | (simp only [grow_grow, Array.append_assoc]; exact (by repeat (first | with_reducible exact Grew.refl _ | with_reducible apply Grew.alloc | with_reducible apply Grew.grow | with_reducible apply Grew.drew | with_reducible apply Grew.drewN))) | exact (by repeat (first | with_reducible exact Grew.refl _ | with_reducible apply Grew.alloc | with_reducible apply Grew.grow | with_reducible apply Grew.drew | with_reducible apply Grew.drewN))), ?_⟩
  obtain ⟨pb, cb, rfl⟩ := shows_form ho.shows
  have SB := Lib.hid ho.shows
  have GW2 := Lib.hid ((show Grew W1 _ from (by repeat (first | with_reducible exact Grew.refl _ | with_reducible apply Grew.alloc | with_reducible apply Grew.grow | with_reducible apply Grew.drew | with_reducible apply Grew.drewN))).trans hg)
  clear ho hg
  refine wpFlowX_one 0 (by decide +kernel) (by kernel_rfl) (by decide +kernel) (by decide +kernel) ?_
  simp only [pickOps_cons, pickOps_nil, pick1_zero, pick1_succ]
  intro δf
  go_wp2_with (fail)
  refine ⟨(by first | assumption | (simp only [grow_grow, Array.append_assoc]; assumption) | exact Grew.refl _ | (simp only [grow_grow, Array.append_assoc]; exact (by repeat (first | with_reducible exact Grew.refl _ | with_reducible apply Grew.alloc | with_reducible apply Grew.grow | with_reducible apply Grew.drew | with_reducible apply Grew.drewN))) | exact (by repeat (first | with_reducible exact Grew.refl _ | with_reducible apply Grew.alloc | with_reducible apply Grew.grow | with_reducible apply Grew.drew | with_reducible apply Grew.drewN))), ?_⟩
  refine flowX_abs ?_
  intro W hE
  have gW : Grew W2 W := by rw [hE]; exact (by repeat (first | with_reducible exact Grew.refl _ | with_reducible apply Grew.alloc | with_reducible apply Grew.grow | with_reducible apply Grew.drew | with_reducible apply Grew.drewN))
  have s3 : Shows W (.slice (some ⟨W2.heap.size + δf.n, 0, none⟩) 1 1) (bys [3]) := by rw [hE]; exact made_3 _ _
  obtain ⟨b3, hb3⟩ : ∃ b3, W2.heap.size + δf.n = b3 := ⟨_, rfl⟩
  rw [hb3] at s3 ⊢
  have S3 := Lib.hid s3
  have GW := Lib.hid gW
  clear hE hb3 s3 gW
  have S3' := S3
  have SA' := Lib.hid ((SA.out.grew GW2.out).grew GW.out)
  have SB' := Lib.hid (SB.out.grew GW.out)
  have GY := Lib.hid (GW1.out.trans (GW2.out.trans GW.out))
  clear S3 SA SB GW1 GW2 GW
  all_goals
    refine wpFlowX_one 5 (by decide +kernel) (by kernel_rfl) (by decide +kernel) (by decide +kernel) ?_
    simp only [pickOps_cons, pickOps_nil, pick1_zero, pick1_succ]
    intro δf
    go_wp2_with (fail)
    refine ⟨(by first | assumption | (simp only [grow_grow, Array.append_assoc]; assumption) | exact Grew.refl _ | (simp only [grow_grow, Array.append_assoc]; exact (by repeat (first | with_reducible exact Grew.refl _ | with_reducible apply Grew.alloc | with_reducible apply Grew.grow | with_reducible apply Grew.drew | with_reducible apply Grew.drewN))) | exact (by repeat (first | with_reducible exact Grew.refl _ | with_reducible apply Grew.alloc | with_reducible apply Grew.grow | with_reducible apply Grew.drew | with_reducible apply Grew.drewN))), ?_⟩
    refine wpFlowX_one 6 (by decide +kernel) (by kernel_rfl) (by decide +kernel) (by decide +kernel) ?_
    simp only [pickOps_cons, pickOps_nil, pick1_zero, pick1_succ]
    intro δf
    go_wp2_with (go_at_call 42; refine (join_rof a b _ _ (rows_3 W _ _ _ _ _ [3] a.text b.text S3'.out SA'.out SB'.out)).mono ?_; rintro e W5 ⟨rfl, hg⟩)
    refine ⟨(by first | assumption | (simp only [grow_grow, Array.append_assoc]; assumption) | exact Grew.refl _ | (simp only [grow_grow, Array.append_assoc]; exact (by repeat (first | with_reducible exact Grew.refl _ | with_reducible apply Grew.alloc | with_reducible apply Grew.grow | with_reducible apply Grew.drew | with_reducible apply Grew.drewN))) | exact (by repeat (first | with_reducible exact Grew.refl _ | with_reducible apply Grew.alloc | with_reducible apply Grew.grow | with_reducible apply Grew.drew | with_reducible apply Grew.drewN))), ?_⟩
    have g5 := Lib.hid (GY.out.trans ((show Grew W _ from (by repeat (first | with_reducible exact Grew.refl _ | with_reducible apply Grew.alloc | with_reducible apply Grew.grow | with_reducible apply Grew.drew | with_reducible apply Grew.drewN))).trans hg))
    clear hg
    apply wpFlowX_quiets [13] (by decide +kernel) (by decide +kernel) (by kernel_rfl) (by intro _ _ _ d _ h; cases d <;> exact h) _
    · intro A hA δ'
      simp only [pickOps_cons, pickOps_nil, pick1_zero, pick1_succ]
      repeat (go_big_quiet_step ((fail)))
      exact wpQuiet_nil hA.out.symm
    have rr5 : W5.rowAt (w.heap.size + 1 + 1) = ta id0 0 0 := by rw [Grew.rowAt g5.out _ LT.out]; exact RR.out.1
    have fr5 : W5.rowFree (w.heap.size + 1 + 1) = true := by rw [Grew.rowFree g5.out _ LT.out]; exact RR.out.2
    have lt5 : w.heap.size + 1 + 1 < W5.heap.size := Nat.lt_of_lt_of_le LT.out g5.out.size
    have zid := id0_len
    refine wpFlowX_esc 14 (by decide +kernel) (by kernel_rfl) (by decide +kernel) (by decide +kernel) ?_
    simp only [pickOps_cons, pickOps_nil, pick1_zero, pick1_succ]
    intro δf
    go_wp2
    refine wpAny_end (by decide +kernel) (by kernel_rfl) ?_
    go_wp2
    refine bodyPost_ret (v := (Tot.join a b).v) (tot_result Try.results21 _ rfl (h := (Tot.join a b).h.l) (x := (a.w.add b.w).n) (n := wrap64 (a.n + b.n)) ?_ hj) rfl ⟨rfl, ?_⟩
    · rw [rowAt_grow_old _ _ _ (by rw [setRow_size]; exact lt5), rowAt_setRow_free _ _ _ fr5]
    · exact (Grew.setRow_new (G0.out.trans g5.out) _ _ (by omega)).grow _
end Go.Proofs.Ytnhcamklammcdaa
/- How many bits a number has (math/bits.Len64). -/
namespace Go.Proofs.Ytnhcamklammcdaa
set_option linter.unusedVariables false
set_option linter.unusedSimpArgs false
open Go.RowKit

theorem wrap_add' (k a b : Nat) (hk : k ≤ 56) (ha : a ≤ 8) (hb : b = k + a) : (k : Int) + (a : Int) = (b : Int) := by omega
theorem len8_bd (i : Int) (h0 : 0 ≤ i) (h1 : i ≤ 255) : 0 ≤ Lib.len8 i ∧ Lib.len8 i ≤ 8 := by
  rw [Lib.len8_of i h0 h1]; have := Lib.bitLen_le8' i h0 h1; omega
set_option maxRecDepth 1000000 in
theorem fold_len8 : (ByteArray.mk ((([0, 1, 2, 2, 3, 3, 3, 3, 4, 4, 4, 4, 4, 4, 4, 4, 5, 5, 5, 5, 5, 5, 5, 5, 5, 5, 5, 5, 5, 5, 5, 5, 6, 6, 6, 6, 6, 6, 6, 6, 6, 6, 6, 6, 6, 6, 6, 6, 6, 6, 6, 6, 6, 6, 6, 6, 6, 6, 6, 6, 6, 6, 6, 6] : List UInt8).append [7, 7, 7, 7, 7, 7, 7, 7, 7, 7, 7, 7, 7, 7, 7, 7, 7, 7, 7, 7, 7, 7, 7, 7, 7, 7, 7, 7, 7, 7, 7, 7, 7, 7, 7, 7, 7, 7, 7, 7, 7, 7, 7, 7, 7, 7, 7, 7, 7, 7, 7, 7, 7, 7, 7, 7, 7, 7, 7, 7, 7, 7, 7, 7]).append (([8, 8, 8, 8, 8, 8, 8, 8, 8, 8, 8, 8, 8, 8, 8, 8, 8, 8, 8, 8, 8, 8, 8, 8, 8, 8, 8, 8, 8, 8, 8, 8, 8, 8, 8, 8, 8, 8, 8, 8, 8, 8, 8, 8, 8, 8, 8, 8, 8, 8, 8, 8, 8, 8, 8, 8, 8, 8, 8, 8, 8, 8, 8, 8] : List UInt8).append [8, 8, 8, 8, 8, 8, 8, 8, 8, 8, 8, 8, 8, 8, 8, 8, 8, 8, 8, 8, 8, 8, 8, 8, 8, 8, 8, 8, 8, 8, 8, 8, 8, 8, 8, 8, 8, 8, 8, 8, 8, 8, 8, 8, 8, 8, 8, 8, 8, 8, 8, 8, 8, 8, 8, 8, 8, 8, 8, 8, 8, 8, 8, 8])).toArray) = Lib.len8tab := rfl
set_option maxRecDepth 1000000 in
set_option maxHeartbeats 1600000 in
theorem len64_000 (x : Nat) (h32 : ¬ ((4294967296 : Int) ≤ (x : Int))) (h16 : ¬ ((65536 : Int) ≤ (x : Int))) (h8 : ¬ ((256 : Int) ≤ (x : Int))) (w : World) :
    Calls Try.prog 74 #[.int .u64 x] w fun e w' => e = .returned (.int .i64 (0 + Lib.len8 ((x : Int)))) ∧ Grew w w' := by
  have hr := len8_bd ((x : Int)) (by omega) (by omega)
  have hr1 := hr.1
  have hr2 := hr.2
  have hm : ((x : Int)) % 256 = (x : Int) := by omega
  have hi : ∀ w, (Instr.index 9 (.string Lib.len8tab) (.int .u8 ((x : Int)))).run Try.prog w = .ok (.int .u8 (Lib.len8 ((x : Int)))) w := fun w => Lib.run_index_len8tab w 9 .u8 _ Try.underlying9 (by omega) (by omega)
  clear hr
  go_enter Try.func74, Try.ntmps74
  rw [fold_len8]
  go_wp2
  go_ret
  refine ⟨congrArg Ending.returned (congrArg (Value.int IntKind.i64) ?_), Grew.refl _⟩
  first | rfl | (simp; done) | trace_state
set_option maxRecDepth 1000000 in
set_option maxHeartbeats 1600000 in
theorem len64_001 (x : Nat) (h32 : ¬ ((4294967296 : Int) ≤ (x : Int))) (h16 : ¬ ((65536 : Int) ≤ (x : Int))) (h8 : (256 : Int) ≤ (x : Int)) (w : World) :
    Calls Try.prog 74 #[.int .u64 x] w fun e w' => e = .returned (.int .i64 (8 + Lib.len8 ((x : Int) / 256))) ∧ Grew w w' := by
  have hr := len8_bd ((x : Int) / 256) (by omega) (by omega)
  have hr1 := hr.1
  have hr2 := hr.2
  have hm : ((x : Int) / 256) % 256 = (x : Int) / 256 := by omega
  have hi : ∀ w, (Instr.index 9 (.string Lib.len8tab) (.int .u8 ((x : Int) / 256))).run Try.prog w = .ok (.int .u8 (Lib.len8 ((x : Int) / 256))) w := fun w => Lib.run_index_len8tab w 9 .u8 _ Try.underlying9 (by omega) (by omega)
  clear hr
  go_enter Try.func74, Try.ntmps74
  rw [fold_len8]
  go_wp2
  go_ret
  refine ⟨congrArg Ending.returned (congrArg (Value.int IntKind.i64) ?_), Grew.refl _⟩
  first | rfl | (simp; done) | trace_state
set_option maxRecDepth 1000000 in
set_option maxHeartbeats 1600000 in
theorem len64_010 (x : Nat) (h32 : ¬ ((4294967296 : Int) ≤ (x : Int))) (h16 : (65536 : Int) ≤ (x : Int)) (h8 : ¬ ((256 : Int) ≤ (x : Int) / 65536)) (w : World) :
    Calls Try.prog 74 #[.int .u64 x] w fun e w' => e = .returned (.int .i64 (16 + Lib.len8 ((x : Int) / 65536))) ∧ Grew w w' := by
  have hr := len8_bd ((x : Int) / 65536) (by omega) (by omega)
  have hr1 := hr.1
  have hr2 := hr.2
  have hm : ((x : Int) / 65536) % 256 = (x : Int) / 65536 := by omega
  have hi : ∀ w, (Instr.index 9 (.string Lib.len8tab) (.int .u8 ((x : Int) / 65536))).run Try.prog w = .ok (.int .u8 (Lib.len8 ((x : Int) / 65536))) w := fun w => Lib.run_index_len8tab w 9 .u8 _ Try.underlying9 (by omega) (by omega)
  clear hr
  go_enter Try.func74, Try.ntmps74
  rw [fold_len8]
  go_wp2
  go_ret
  refine ⟨congrArg Ending.returned (congrArg (Value.int IntKind.i64) ?_), Grew.refl _⟩
  first | rfl | (simp; done) | trace_state
set_option maxRecDepth 1000000 in
set_option maxHeartbeats 1600000 in
theorem len64_011 (x : Nat) (h32 : ¬ ((4294967296 : Int) ≤ (x : Int))) (h16 : (65536 : Int) ≤ (x : Int)) (h8 : (256 : Int) ≤ (x : Int) / 65536) (w : World) :
    Calls Try.prog 74 #[.int .u64 x] w fun e w' => e = .returned (.int .i64 (24 + Lib.len8 ((x : Int) / 65536 / 256))) ∧ Grew w w' := by
  have hr := len8_bd ((x : Int) / 65536 / 256) (by omega) (by omega)
  have hr1 := hr.1
  have hr2 := hr.2
  have hm : ((x : Int) / 65536 / 256) % 256 = (x : Int) / 65536 / 256 := by omega
  have hi : ∀ w, (Instr.index 9 (.string Lib.len8tab) (.int .u8 ((x : Int) / 65536 / 256))).run Try.prog w = .ok (.int .u8 (Lib.len8 ((x : Int) / 65536 / 256))) w := fun w => Lib.run_index_len8tab w 9 .u8 _ Try.underlying9 (by omega) (by omega)
  clear hr
  go_enter Try.func74, Try.ntmps74
  rw [fold_len8]
  go_wp2
  go_ret
  refine ⟨congrArg Ending.returned (congrArg (Value.int IntKind.i64) ?_), Grew.refl _⟩
  first | rfl | (simp; done) | trace_state
set_option maxRecDepth 1000000 in
set_option maxHeartbeats 1600000 in
theorem len64_100 (x : Nat) (h32 : (4294967296 : Int) ≤ (x : Int)) (h16 : ¬ ((65536 : Int) ≤ (x : Int) / 4294967296)) (h8 : ¬ ((256 : Int) ≤ (x : Int) / 4294967296)) (w : World) :
    Calls Try.prog 74 #[.int .u64 x] w fun e w' => e = .returned (.int .i64 (32 + Lib.len8 ((x : Int) / 4294967296))) ∧ Grew w w' := by
  have hr := len8_bd ((x : Int) / 4294967296) (by omega) (by omega)
  have hr1 := hr.1
  have hr2 := hr.2
  have hm : ((x : Int) / 4294967296) % 256 = (x : Int) / 4294967296 := by omega
  have hi : ∀ w, (Instr.index 9 (.string Lib.len8tab) (.int .u8 ((x : Int) / 4294967296))).run Try.prog w = .ok (.int .u8 (Lib.len8 ((x : Int) / 4294967296))) w := fun w => Lib.run_index_len8tab w 9 .u8 _ Try.underlying9 (by omega) (by omega)
  clear hr
  go_enter Try.func74, Try.ntmps74
  rw [fold_len8]
  go_wp2
  go_ret
  refine ⟨congrArg Ending.returned (congrArg (Value.int IntKind.i64) ?_), Grew.refl _⟩
  first | rfl | (simp; done) | trace_state
set_option maxRecDepth 1000000 in
set_option maxHeartbeats 1600000 in
theorem len64_101 (x : Nat) (h32 : (4294967296 : Int) ≤ (x : Int)) (h16 : ¬ ((65536 : Int) ≤ (x : Int) / 4294967296)) (h8 : (256 : Int) ≤ (x : Int) / 4294967296) (w : World) :
    Calls Try.prog 74 #[.int .u64 x] w fun e w' => e = .returned (.int .i64 (40 + Lib.len8 ((x : Int) / 4294967296 / 256))) ∧ Grew w w' := by
  have hr := len8_bd ((x : Int) / 4294967296 / 256) (by omega) (by omega)
  have hr1 := hr.1
  have hr2 := hr.2
  have hm : ((x : Int) / 4294967296 / 256) % 256 = (x : Int) / 4294967296 / 256 := by omega
  have hi : ∀ w, (Instr.index 9 (.string Lib.len8tab) (.int .u8 ((x : Int) / 4294967296 / 256))).run Try.prog w = .ok (.int .u8 (Lib.len8 ((x : Int) / 4294967296 / 256))) w := fun w => Lib.run_index_len8tab w 9 .u8 _ Try.underlying9 (by omega) (by omega)
  clear hr
  go_enter Try.func74, Try.ntmps74
  rw [fold_len8]
  go_wp2
  go_ret
  refine ⟨congrArg Ending.returned (congrArg (Value.int IntKind.i64) ?_), Grew.refl _⟩
  first | rfl | (simp; done) | trace_state
set_option maxRecDepth 1000000 in
set_option maxHeartbeats 1600000 in
theorem len64_110 (x : Nat) (h32 : (4294967296 : Int) ≤ (x : Int)) (h16 : (65536 : Int) ≤ (x : Int) / 4294967296) (h8 : ¬ ((256 : Int) ≤ (x : Int) / 4294967296 / 65536)) (w : World) :
    Calls Try.prog 74 #[.int .u64 x] w fun e w' => e = .returned (.int .i64 (48 + Lib.len8 ((x : Int) / 4294967296 / 65536))) ∧ Grew w w' := by
  have hr := len8_bd ((x : Int) / 4294967296 / 65536) (by omega) (by omega)
  have hr1 := hr.1
  have hr2 := hr.2
  have hm : ((x : Int) / 4294967296 / 65536) % 256 = (x : Int) / 4294967296 / 65536 := by omega
  have hi : ∀ w, (Instr.index 9 (.string Lib.len8tab) (.int .u8 ((x : Int) / 4294967296 / 65536))).run Try.prog w = .ok (.int .u8 (Lib.len8 ((x : Int) / 4294967296 / 65536))) w := fun w => Lib.run_index_len8tab w 9 .u8 _ Try.underlying9 (by omega) (by omega)
  clear hr
  go_enter Try.func74, Try.ntmps74
  rw [fold_len8]
  go_wp2
  go_ret
  refine ⟨congrArg Ending.returned (congrArg (Value.int IntKind.i64) ?_), Grew.refl _⟩
  first | rfl | (simp; done) | trace_state
set_option maxRecDepth 1000000 in
set_option maxHeartbeats 1600000 in
theorem len64_111 (x : Nat) (hx : x < 18446744073709551616) (h32 : (4294967296 : Int) ≤ (x : Int)) (h16 : (65536 : Int) ≤ (x : Int) / 4294967296) (h8 : (256 : Int) ≤ (x : Int) / 4294967296 / 65536) (w : World) :
    Calls Try.prog 74 #[.int .u64 x] w fun e w' => e = .returned (.int .i64 (56 + Lib.len8 ((x : Int) / 4294967296 / 65536 / 256))) ∧ Grew w w' := by
  have hr := len8_bd ((x : Int) / 4294967296 / 65536 / 256) (by omega) (by omega)
  have hr1 := hr.1
  have hr2 := hr.2
  have hm : ((x : Int) / 4294967296 / 65536 / 256) % 256 = (x : Int) / 4294967296 / 65536 / 256 := by omega
  have hi : ∀ w, (Instr.index 9 (.string Lib.len8tab) (.int .u8 ((x : Int) / 4294967296 / 65536 / 256))).run Try.prog w = .ok (.int .u8 (Lib.len8 ((x : Int) / 4294967296 / 65536 / 256))) w := fun w => Lib.run_index_len8tab w 9 .u8 _ Try.underlying9 (by omega) (by omega)
  clear hr hx
  go_enter Try.func74, Try.ntmps74
  rw [fold_len8]
  go_wp2
  go_ret
  refine ⟨congrArg Ending.returned (congrArg (Value.int IntKind.i64) ?_), Grew.refl _⟩
  first | rfl | (simp; done) | trace_state

theorem len64_any (x : Nat) (hx : x < 18446744073709551616) (w : World) :
    Calls Try.prog 74 #[.int .u64 x] w fun e w' => e = .returned (.int .i64 (Lib.bitLen x)) ∧ Grew w w' := by
  by_cases h32 : (4294967296 : Int) ≤ (x : Int)
  · by_cases h16 : (65536 : Int) ≤ (x : Int) / 4294967296
    · by_cases h8 : (256 : Int) ≤ (x : Int) / 4294967296 / 65536
      · refine (len64_111 x hx h32 h16 h8 w).mono fun e w' ⟨he, hw⟩ => ⟨he.trans ?_, hw⟩
        rw [Lib.len8_of _ (by omega) (by omega)]
        have e : ((x : Int) / 4294967296 / 65536 / 256).toNat = x / 72057594037927936 := by omega
        have sh := Lib.bitLen_shift56 x (by omega) hx
        rw [e]
        rw [sh]; rfl
      · refine (len64_110 x h32 h16 h8 w).mono fun e w' ⟨he, hw⟩ => ⟨he.trans ?_, hw⟩
        rw [Lib.len8_of _ (by omega) (by omega)]
        have e : ((x : Int) / 4294967296 / 65536).toNat = x / 281474976710656 := by omega
        have sh := Lib.bitLen_shift48 x (by omega) hx
        rw [e]
        rw [sh]; rfl
    · by_cases h8 : (256 : Int) ≤ (x : Int) / 4294967296
      · refine (len64_101 x h32 h16 h8 w).mono fun e w' ⟨he, hw⟩ => ⟨he.trans ?_, hw⟩
        rw [Lib.len8_of _ (by omega) (by omega)]
        have e : ((x : Int) / 4294967296 / 256).toNat = x / 1099511627776 := by omega
        have sh := Lib.bitLen_shift40 x (by omega) hx
        rw [e]
        rw [sh]; rfl
      · refine (len64_100 x h32 h16 h8 w).mono fun e w' ⟨he, hw⟩ => ⟨he.trans ?_, hw⟩
        rw [Lib.len8_of _ (by omega) (by omega)]
        have e : ((x : Int) / 4294967296).toNat = x / 4294967296 := by omega
        have sh := Lib.bitLen_shift32 x (by omega) hx
        rw [e]
        rw [sh]; rfl
  · by_cases h16 : (65536 : Int) ≤ (x : Int)
    · by_cases h8 : (256 : Int) ≤ (x : Int) / 65536
      · refine (len64_011 x h32 h16 h8 w).mono fun e w' ⟨he, hw⟩ => ⟨he.trans ?_, hw⟩
        rw [Lib.len8_of _ (by omega) (by omega)]
        have e : ((x : Int) / 65536 / 256).toNat = x / 16777216 := by omega
        have sh := Lib.bitLen_shift24 x (by omega) hx
        rw [e]
        rw [sh]; rfl
      · refine (len64_010 x h32 h16 h8 w).mono fun e w' ⟨he, hw⟩ => ⟨he.trans ?_, hw⟩
        rw [Lib.len8_of _ (by omega) (by omega)]
        have e : ((x : Int) / 65536).toNat = x / 65536 := by omega
        have sh := Lib.bitLen_shift16 x (by omega) hx
        rw [e]
        rw [sh]; rfl
    · by_cases h8 : (256 : Int) ≤ (x : Int)
      · refine (len64_001 x h32 h16 h8 w).mono fun e w' ⟨he, hw⟩ => ⟨he.trans ?_, hw⟩
        rw [Lib.len8_of _ (by omega) (by omega)]
        have e : ((x : Int) / 256).toNat = x / 256 := by omega
        have sh := Lib.bitLen_shift8 x (by omega) hx
        rw [e]
        rw [sh]; rfl
      · refine (len64_000 x h32 h16 h8 w).mono fun e w' ⟨he, hw⟩ => ⟨he.trans ?_, hw⟩
        rw [Lib.len8_of _ (by omega) (by omega)]
        have e : ((x : Int)).toNat = x := by omega
        rw [e]
        exact congrArg Ending.returned (congrArg (Value.int IntKind.i64) (Int.zero_add _))
end Go.Proofs.Ytnhcamklammcdaa

/- Where a tree is cut (math/bits.Len). -/
namespace Go.Proofs.Ytnhcamklammcdaa
set_option linter.unusedVariables false
set_option linter.unusedSimpArgs false
open Go.RowKit
theorem len_w (x : Nat) (hx : x < 18446744073709551616) (w : World) :
    Calls Try.prog 66 #[.int .u64 x] w fun e w' => e = .returned (.int .i64 (Lib.bitLen x)) ∧ Grew w w' := by
  go_enter Try.func66, Try.ntmps66
  go_wp2_with (go_at_call 74; refine (len64_any x hx _).mono ?_; rintro e w' ⟨rfl, δ, rfl⟩)
  go_ret
  exact ⟨rfl, (by repeat (first | with_reducible exact Grew.refl _ | with_reducible apply Grew.alloc | with_reducible apply Grew.grow | with_reducible apply Grew.drew | with_reducible apply Grew.drewN))⟩
theorem bitLen_sand : ∀ (k x : Nat), x ≠ 0 → x < 2 ^ k → k ≤ 64 → 1 ≤ Lib.bitLen x ∧ 2 ^ (Lib.bitLen x - 1) ≤ x ∧ x < 2 ^ Lib.bitLen x
  | 0, x, h0, hx, _ => by simp at hx; omega
  | k + 1, x, h0, hx, hk => by
    have h64 : x < 2 ^ 64 := Nat.lt_of_lt_of_le hx (Nat.pow_le_pow_right (by omega) hk)
    have e := Lib.bitLen_half x h0 h64
    by_cases h1 : x / 2 = 0
    · have : x = 1 := by omega
      subst this
      rw [e, h1, show Lib.bitLen 0 = 0 by decide]
      decide
    · have ih := bitLen_sand k (x / 2) h1 (by rw [Nat.pow_succ] at hx; omega) (by omega)
      rw [e]
      obtain ⟨b, hb⟩ : ∃ b, Lib.bitLen (x / 2) = b + 1 := ⟨Lib.bitLen (x / 2) - 1, by omega⟩
      rw [hb] at ih ⊢
      rw [show 1 + (b + 1) - 1 = b + 1 by omega, show 1 + (b + 1) = b + 2 by omega]
      simp only [Nat.add_sub_cancel] at ih
      have p1 : 2 ^ (b + 1) = 2 * 2 ^ b := by rw [Nat.pow_succ]; omega
      have p2 : 2 ^ (b + 2) = 4 * 2 ^ b := by rw [Nat.pow_add]; omega
      rw [p1] at ih ⊢
      rw [p2]
      generalize 2 ^ b = y at *
      omega
/-- Where a tree of 'n' leaves is cut: 2 as often times itself. -/
def hexp (n : Nat) : Nat := Lib.bitLen (n - 1) - 1
def halfN (n : Nat) : Nat := 2 ^ hexp n
theorem half_sand (n : Nat) (h2 : 2 ≤ n) (hn : n ≤ 1099511627776) : 1 ≤ Lib.bitLen (n - 1) ∧ halfN n < n ∧ n ≤ 2 * halfN n := by
  have h := bitLen_sand 41 (n - 1) (by omega) (Nat.lt_of_lt_of_le (show n - 1 < 2 ^ 40 by omega) (by decide)) (by omega)
  unfold halfN hexp
  obtain ⟨b, hb⟩ : ∃ b, Lib.bitLen (n - 1) = b + 1 := ⟨Lib.bitLen (n - 1) - 1, by omega⟩
  rw [hb] at h ⊢
  simp only [Nat.add_sub_cancel] at h ⊢
  rw [Nat.pow_succ] at h
  generalize 2 ^ b = y at *
  omega
theorem half_pos (n : Nat) : 1 ≤ halfN n := Nat.one_le_two_pow
/-- There is one such number. -/
theorem half_uniq (n j : Nat) (h2 : 2 ≤ n) (hn : n ≤ 1099511627776) (h : 2 ^ j < n) (h' : n ≤ 2 * 2 ^ j) : 2 ^ j = halfN n := by
  have hs := half_sand n h2 hn
  unfold halfN at *
  rcases Nat.lt_trichotomy j (hexp n) with hl | hl | hl
  · have := Nat.pow_le_pow_right (show 0 < 2 by omega) hl
    rw [Nat.pow_succ] at this
    omega
  · rw [hl]
  · have := Nat.pow_le_pow_right (show 0 < 2 by omega) hl
    rw [Nat.pow_succ] at this
    omega
end Go.Proofs.Ytnhcamklammcdaa
/- The document's Half. -/
namespace Go.Proofs.Ytnhcamklammcdaa
set_option linter.unusedVariables false
set_option linter.unusedSimpArgs false
open Go.RowKit
set_option maxRecDepth 100000 in
set_option maxHeartbeats 3200000 in
theorem rhalf_w (n : Nat) (h2 : 2 ≤ n) (hn : n ≤ 1000000) (w : World) :
    Calls Try.prog 47 #[.int .i64 n] w fun e w' => e = .returned (.int .i64 (halfN n : Nat)) ∧ Grew w w' := by
  go_enter Try.func47, Try.ntmps47
  go_wp2
  go_loopw [3] (fun a wr => ∃ j : Nat, 2 ^ j < n ∧ a = .int .i64 ((2 ^ j : Nat) : Int) ∧ wr = w) (fun a _ => n - (intOf a).toNat)
  case atStart => exact ⟨0, by omega, rfl, rfl⟩
  case round =>
    obtain ⟨j, hj, rfl, rfl⟩ := hrel
    have hp : 2 ^ (j + 1) = 2 * 2 ^ j := by rw [Nat.pow_succ]; omega
    have h1 : 1 ≤ 2 ^ j := Nat.one_le_two_pow
    have hu := half_uniq n j h2 (by omega) hj
    obtain ⟨x, hx⟩ : ∃ x, 2 ^ j = x := ⟨_, rfl⟩
    rw [hx] at hj hp h1 hu ⊢
    by_cases h : 2 * x < n
    · have hlt : 2 * (x : Int) < (n : Int) := by omega
      have hnI : (n : Int) ≤ 1000000 := by omega
      have HP := Lib.hid hp
      have HJ := Lib.hid (And.intro h h1)
      clear hu hp hx h hj h1
      go_wp2
      have hp := HP.out
      have := HJ.out
      exact ⟨⟨j + 1, by omega, by rw [hp]; go_num, trivial⟩, by simp only [intOf]; omega⟩
    · have hge : ¬ 2 * (x : Int) < (n : Int) := by omega
      have hnI : (x : Int) ≤ 1000000 := by omega
      have HU := Lib.hid (hu (by omega))
      clear hu hp hx h hj h1
      go_wp2
      go_ret
      exact ⟨by rw [HU.out]; rfl, Grew.refl _⟩
end Go.Proofs.Ytnhcamklammcdaa
