/- Arrays of words; what sha computes; its numbers. -/
import Derived.Test.YtmnnmndnpkanlaaRows
import Derived.Test.YtmnnmndnpkanlaaSha1
import Derived.Test.YtmnnmndnpkanlaaIdOps
namespace Go.Proofs.Ytmnnmndnpkanlaa
set_option linter.unusedVariables false
set_option linter.unusedSimpArgs false
open Go.RowKit

/-- The cells of words. -/
def uv (l : List (BitVec 32)) : Array Value := (l.map fun x => Value.int .u32 (u x)).toArray
theorem uv_size (l : List (BitVec 32)) : (uv l).size = l.length := by simp [uv]
def wordAt (l : List (BitVec 32)) (i : Nat) : BitVec 32 := l.getD i 0
theorem wordAt_eq (l : List (BitVec 32)) (i : Nat) (h : i < l.length) : wordAt l i = l[i] := by simp [wordAt, h]
theorem uv_at (l : List (BitVec 32)) (i : Nat) (h : i < l.length) : (uv l)[i]? = some (.int .u32 (u (wordAt l i))) := by rw [wordAt_eq l i h]; simp [uv, h]
theorem uv_elem (l : List (BitVec 32)) (i : Nat) (h : i < (uv l).size) : (uv l)[i] = .int .u32 (u (wordAt l i)) := by
  have h1 := uv_at l i (by rw [uv_size] at h; exact h)
  rw [Array.getElem?_eq_getElem h] at h1
  exact Option.some.inj h1
theorem uv_set (l : List (BitVec 32)) (i : Nat) (x : BitVec 32) : (uv l).setIfInBounds i (.int .u32 (u x)) = uv (l.set i x) := by
  unfold uv; rw [List.setIfInBounds_toArray, List.map_set]
theorem uv_all (l : List (BitVec 32)) : (uv l).all (·.oneCell') = true := by
  rw [Array.all_eq_true_iff_forall_mem]
  intro v hv
  unfold uv at hv
  simp only [List.mem_toArray, List.mem_map] at hv
  obtain ⟨c, _, rfl⟩ := hv
  rfl
attribute [go_sem] uv_size uv_at uv_elem uv_set uv_all

theorem rowType_w : Try.prog.rowType 52 64 = true := by kernel_rfl
theorem rowType_s : Try.prog.rowType 41 8 = true := by kernel_rfl
def w0 : List (BitVec 32) := List.replicate 64 0
def s0 : List (BitVec 32) := List.replicate 8 0
@[go_sem] theorem w0_len : w0.length = 64 := by simp [w0]
@[go_sem] theorem s0_len : s0.length = 8 := by simp [s0]
theorem zero_w : (Try.prog.info? 52).map (·.zero) = some (some (.agg (uv w0))) := by kernel_rfl
theorem zero_s : (Try.prog.info? 41).map (·.zero) = some (some (.agg (uv s0))) := by kernel_rfl
section
variable (ρ : Operand → Value) (d : Option Tmp) (x y : Operand) (t : TypeId) (p : String) (a : Array Edge) (g : Option (Nat × Bool))
@[go_sem ↓] theorem ex_load_ws : execOp ρ ⟨d, .load 52 x, t, p, a, g⟩ = rowLoad 52 (ρ x) := rfl
@[go_sem ↓] theorem ex_store_ws : execOp ρ ⟨d, .store 52 x y, t, p, a, g⟩ = rowStore 52 (ρ x) (ρ y) := rfl
@[go_sem ↓] theorem ex_alloc_ws : execOp ρ ⟨d, .alloc 52, t, p, a, g⟩ = rowAlloc 52 := rfl
@[go_sem ↓] theorem ex_load_st : execOp ρ ⟨d, .load 41 x, t, p, a, g⟩ = rowLoad 41 (ρ x) := rfl
@[go_sem ↓] theorem ex_store_st : execOp ρ ⟨d, .store 41 x y, t, p, a, g⟩ = rowStore 41 (ρ x) (ρ y) := rfl
@[go_sem ↓] theorem ex_alloc_st : execOp ρ ⟨d, .alloc 41, t, p, a, g⟩ = rowAlloc 41 := rfl
end
section
variable (w : World) (g : Nat)
@[go_sem] theorem load_ws (h : (w.rowAt g).size = 64) : (rowLoad 52 (.pointer (some ⟨g, 0, none⟩))).run Try.prog w = .ok (.value (.agg (w.rowAt g))) w := run_rowLoad w (n := 63) rowType_w h
@[go_sem] theorem load_st (h : (w.rowAt g).size = 8) : (rowLoad 41 (.pointer (some ⟨g, 0, none⟩))).run Try.prog w = .ok (.value (.agg (w.rowAt g))) w := run_rowLoad w (n := 7) rowType_s h
@[go_sem] theorem store_ws (l : List (BitVec 32)) (hl : l.length = 64) (h : (w.rowAt g).size = 64) (hf : w.rowFree g = true) : (rowStore 52 (.pointer (some ⟨g, 0, none⟩)) (.agg (uv l))).run Try.prog w = .ok .skip (w.setRow g (uv l)) := run_rowStore w (n := 64) rowType_w hf h (by rw [uv_size]; exact hl) (uv_all l)
@[go_sem] theorem store_st (l : List (BitVec 32)) (hl : l.length = 8) (h : (w.rowAt g).size = 8) (hf : w.rowFree g = true) : (rowStore 41 (.pointer (some ⟨g, 0, none⟩)) (.agg (uv l))).run Try.prog w = .ok .skip (w.setRow g (uv l)) := run_rowStore w (n := 8) rowType_s hf h (by rw [uv_size]; exact hl) (uv_all l)
@[go_sem] theorem alloc_ws : (rowAlloc 52).run Try.prog w = .ok (.value (.pointer (some ⟨w.heap.size, 0, none⟩))) (w.alloc (.cells (uv w0) 52)) := run_rowAlloc w zero_w
@[go_sem] theorem alloc_st : (rowAlloc 41).run Try.prog w = .ok (.value (.pointer (some ⟨w.heap.size, 0, none⟩))) (w.alloc (.cells (uv s0) 41)) := run_rowAlloc w zero_s
end
theorem ws_result {fn : Func} {p : Tmp} {g : Nat} {w : World} {l : List (BitVec 32)} (hr : fn.results = #[.cell p 52]) (tmps : Array Value) (hp : tmps.getD p undef = .pointer (some ⟨g, 0, none⟩)) (h : w.rowAt g = uv l) (hl : l.length = 64) :
    (results fn tmps).run Try.prog w = .ok (.agg (uv l)) w := by
  have := run_result_row w (n := 63) hr tmps hp rowType_w (by rw [h, uv_size, hl])
  rwa [h] at this
/-! ### What is computed -/
/-- The numbers of the rounds. -/
def ks : List (BitVec 32) := [1116352408, 1899447441, 3049323471, 3921009573, 961987163, 1508970993, 2453635748, 2870763221, 3624381080, 310598401, 607225278, 1426881987, 1925078388, 2162078206, 2614888103, 3248222580, 3835390401, 4022224774, 264347078, 604807628, 770255983, 1249150122, 1555081692, 1996064986, 2554220882, 2821834349, 2952996808, 3210313671, 3336571891, 3584528711, 113926993, 338241895, 666307205, 773529912, 1294757372, 1396182291, 1695183700, 1986661051, 2177026350, 2456956037, 2730485921, 2820302411, 3259730800, 3345764771, 3516065817, 3600352804, 4094571909, 275423344, 430227734, 506948616, 659060556, 883997877, 958139571, 1322822218, 1537002063, 1747873779, 1955562222, 2024104815, 2227730452, 2361852424, 2428436474, 2756734187, 3204031479, 3329325298].map (BitVec.ofNat 32)
@[go_sem] theorem ks_len : ks.length = 64 := by decide
def be32 (a b c d : Nat) : BitVec 32 := BitVec.ofNat 32 (a * 16777216 + b * 65536 + c * 256 + d)
def schedN (w : List (BitVec 32)) (i : Nat) : BitVec 32 :=
  wordAt w (i - 16) + wordAt w (i - 7) + (rr 7 (wordAt w (i - 15)) ^^^ rr 18 (wordAt w (i - 15)) ^^^ wordAt w (i - 15) >>> 3) + (rr 17 (wordAt w (i - 2)) ^^^ rr 19 (wordAt w (i - 2)) ^^^ wordAt w (i - 2) >>> 10)
/-- The first 'i' words of 64 bytes. -/
def sched (b : List Nat) : Nat → List (BitVec 32)
  | 0 => []
  | i + 1 => sched b i ++ [if i < 16 then be32 (byteAt b (4 * i)) (byteAt b (4 * i + 1)) (byteAt b (4 * i + 2)) (byteAt b (4 * i + 3)) else schedN (sched b i) i]
theorem sched_len (b : List Nat) : ∀ i, (sched b i).length = i
  | 0 => rfl
  | i + 1 => by unfold sched; rw [List.length_append, sched_len b i]; rfl
def tx (v : List (BitVec 32)) (k w : BitVec 32) : BitVec 32 :=
  wordAt v 7 + (rr 6 (wordAt v 4) ^^^ rr 11 (wordAt v 4) ^^^ rr 25 (wordAt v 4)) + (wordAt v 4 &&& wordAt v 5 ^^^ ~~~ wordAt v 4 &&& wordAt v 6) + k + w
def ty (v : List (BitVec 32)) : BitVec 32 :=
  (rr 2 (wordAt v 0) ^^^ rr 13 (wordAt v 0) ^^^ rr 22 (wordAt v 0)) + (wordAt v 0 &&& wordAt v 1 ^^^ wordAt v 0 &&& wordAt v 2 ^^^ wordAt v 1 &&& wordAt v 2)
/-- One round. -/
def round1 (v : List (BitVec 32)) (k w : BitVec 32) : List (BitVec 32) :=
  [tx v k w + ty v, wordAt v 0, wordAt v 1, wordAt v 2, wordAt v 3 + tx v k w, wordAt v 4, wordAt v 5, wordAt v 6]
/-- The eight words behind 'i' rounds. -/
def rnds (s : List (BitVec 32)) (w : List (BitVec 32)) : Nat → List (BitVec 32)
  | 0 => s
  | i + 1 => round1 (rnds s w i) (wordAt ks i) (wordAt w i)
theorem rnds_len (s w : List (BitVec 32)) (h : s.length = 8) : ∀ i, (rnds s w i).length = 8
  | 0 => h
  | i + 1 => rfl
/-- What comes of eight words and 64 bytes. -/
def compress (s : List (BitVec 32)) (b : List Nat) : List (BitVec 32) := (List.range 8).map fun i => wordAt s i + wordAt (rnds s (sched b 64) 64) i
theorem compress_len (s : List (BitVec 32)) (b : List Nat) : (compress s b).length = 8 := by simp [compress]

def ksParts : Array (Nat × Operand) := #[(0, .const (.int .u32 1116352408)), (1, .const (.int .u32 1899447441)), (2, .const (.int .u32 3049323471)), (3, .const (.int .u32 3921009573)), (4, .const (.int .u32 961987163)), (5, .const (.int .u32 1508970993)), (6, .const (.int .u32 2453635748)), (7, .const (.int .u32 2870763221)), (8, .const (.int .u32 3624381080)), (9, .const (.int .u32 310598401)), (10, .const (.int .u32 607225278)), (11, .const (.int .u32 1426881987)), (12, .const (.int .u32 1925078388)), (13, .const (.int .u32 2162078206)), (14, .const (.int .u32 2614888103)), (15, .const (.int .u32 3248222580)), (16, .const (.int .u32 3835390401)), (17, .const (.int .u32 4022224774)), (18, .const (.int .u32 264347078)), (19, .const (.int .u32 604807628)), (20, .const (.int .u32 770255983)), (21, .const (.int .u32 1249150122)), (22, .const (.int .u32 1555081692)), (23, .const (.int .u32 1996064986)), (24, .const (.int .u32 2554220882)), (25, .const (.int .u32 2821834349)), (26, .const (.int .u32 2952996808)), (27, .const (.int .u32 3210313671)), (28, .const (.int .u32 3336571891)), (29, .const (.int .u32 3584528711)), (30, .const (.int .u32 113926993)), (31, .const (.int .u32 338241895)), (32, .const (.int .u32 666307205)), (33, .const (.int .u32 773529912)), (34, .const (.int .u32 1294757372)), (35, .const (.int .u32 1396182291)), (36, .const (.int .u32 1695183700)), (37, .const (.int .u32 1986661051)), (38, .const (.int .u32 2177026350)), (39, .const (.int .u32 2456956037)), (40, .const (.int .u32 2730485921)), (41, .const (.int .u32 2820302411)), (42, .const (.int .u32 3259730800)), (43, .const (.int .u32 3345764771)), (44, .const (.int .u32 3516065817)), (45, .const (.int .u32 3600352804)), (46, .const (.int .u32 4094571909)), (47, .const (.int .u32 275423344)), (48, .const (.int .u32 430227734)), (49, .const (.int .u32 506948616)), (50, .const (.int .u32 659060556)), (51, .const (.int .u32 883997877)), (52, .const (.int .u32 958139571)), (53, .const (.int .u32 1322822218)), (54, .const (.int .u32 1537002063)), (55, .const (.int .u32 1747873779)), (56, .const (.int .u32 1955562222)), (57, .const (.int .u32 2024104815)), (58, .const (.int .u32 2227730452)), (59, .const (.int .u32 2361852424)), (60, .const (.int .u32 2428436474)), (61, .const (.int .u32 2756734187)), (62, .const (.int .u32 3204031479)), (63, .const (.int .u32 3329325298))]
def ksBuild : Sem Next := do let x ← Instr.build 52 (ksParts.map fun (i, x) => (i, (Act.eval ⟨#[], []⟩ x))); pure (.value x)
@[go_sem] theorem run_ksBuild (w : World) : ksBuild.run Try.prog w = .ok (.value (.agg (uv ks))) w := by kernel_rfl
set_option maxRecDepth 100000 in
@[go_sem ↓] theorem ex_ksBuild (b : Act) (d : Option Tmp) (t : TypeId) (p : String) (a : Array Edge) (g : Option (Nat × Bool)) : execOp b.eval ⟨d, .build 52 #[(0, .const (.int .u32 1116352408)), (1, .const (.int .u32 1899447441)), (2, .const (.int .u32 3049323471)), (3, .const (.int .u32 3921009573)), (4, .const (.int .u32 961987163)), (5, .const (.int .u32 1508970993)), (6, .const (.int .u32 2453635748)), (7, .const (.int .u32 2870763221)), (8, .const (.int .u32 3624381080)), (9, .const (.int .u32 310598401)), (10, .const (.int .u32 607225278)), (11, .const (.int .u32 1426881987)), (12, .const (.int .u32 1925078388)), (13, .const (.int .u32 2162078206)), (14, .const (.int .u32 2614888103)), (15, .const (.int .u32 3248222580)), (16, .const (.int .u32 3835390401)), (17, .const (.int .u32 4022224774)), (18, .const (.int .u32 264347078)), (19, .const (.int .u32 604807628)), (20, .const (.int .u32 770255983)), (21, .const (.int .u32 1249150122)), (22, .const (.int .u32 1555081692)), (23, .const (.int .u32 1996064986)), (24, .const (.int .u32 2554220882)), (25, .const (.int .u32 2821834349)), (26, .const (.int .u32 2952996808)), (27, .const (.int .u32 3210313671)), (28, .const (.int .u32 3336571891)), (29, .const (.int .u32 3584528711)), (30, .const (.int .u32 113926993)), (31, .const (.int .u32 338241895)), (32, .const (.int .u32 666307205)), (33, .const (.int .u32 773529912)), (34, .const (.int .u32 1294757372)), (35, .const (.int .u32 1396182291)), (36, .const (.int .u32 1695183700)), (37, .const (.int .u32 1986661051)), (38, .const (.int .u32 2177026350)), (39, .const (.int .u32 2456956037)), (40, .const (.int .u32 2730485921)), (41, .const (.int .u32 2820302411)), (42, .const (.int .u32 3259730800)), (43, .const (.int .u32 3345764771)), (44, .const (.int .u32 3516065817)), (45, .const (.int .u32 3600352804)), (46, .const (.int .u32 4094571909)), (47, .const (.int .u32 275423344)), (48, .const (.int .u32 430227734)), (49, .const (.int .u32 506948616)), (50, .const (.int .u32 659060556)), (51, .const (.int .u32 883997877)), (52, .const (.int .u32 958139571)), (53, .const (.int .u32 1322822218)), (54, .const (.int .u32 1537002063)), (55, .const (.int .u32 1747873779)), (56, .const (.int .u32 1955562222)), (57, .const (.int .u32 2024104815)), (58, .const (.int .u32 2227730452)), (59, .const (.int .u32 2361852424)), (60, .const (.int .u32 2428436474)), (61, .const (.int .u32 2756734187)), (62, .const (.int .u32 3204031479)), (63, .const (.int .u32 3329325298))], t, p, a, g⟩ = ksBuild := by kernel_rfl
set_option maxRecDepth 100000 in
set_option maxHeartbeats 1600000 in
theorem numbers_w (w : World) : Calls Try.prog 27 #[] w fun e w' => e = .returned (.agg (uv ks)) ∧ Grew w w' := by
  go_enter Try.func27, Try.ntmps27
  go_wp2
  exact bodyPost_ret (v := .agg (uv ks)) (ws_result Try.results27 _ rfl (by simp [go_sem]) ks_len) rfl ⟨rfl, (by repeat (first | with_reducible exact Grew.refl _ | with_reducible apply Grew.alloc | with_reducible apply Grew.grow | with_reducible apply Grew.drew | with_reducible apply Grew.drewN))⟩
end Go.Proofs.Ytmnnmndnpkanlaa
