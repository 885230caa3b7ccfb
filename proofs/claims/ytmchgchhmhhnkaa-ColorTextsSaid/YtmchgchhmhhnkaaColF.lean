/- A color's digits: the document's Show, and the program's, walked: both are one text. -/
import Derived.Test.YtmchgchhmhhnkaaBld
import Derived.Test.YtmchgchhmhhnkaaRunesI
namespace Go.Proofs.Ytmchgchhmhhnkaa
open Go.RowKit
set_option linter.unusedSimpArgs false
set_option linter.unusedVariables false
set_option maxRecDepth 1000000
/-- A digit, as a text of one byte. -/
def dgS (n : Nat) : ByteArray := ByteArray.extract { data := #[48, 49, 50, 51, 52, 53, 54, 55, 56, 57, 97, 98, 99, 100, 101, 102] } n (n + 1)
theorem dgS_def (n : Nat) : ByteArray.extract { data := #[48, 49, 50, 51, 52, 53, 54, 55, 56, 57, 97, 98, 99, 100, 101, 102] } n (n + 1) = dgS n := rfl
theorem dgS_size (n : Nat) (h : n < 16) : (dgS n).size = 1 := by
  have : ∀ n : Fin 16, (dgS n.val).size = 1 := by decide +kernel
  exact this ⟨n, h⟩
/-- The number of the digit at place k from the low end. -/
def nib (c : Nat) (k : Nat) : Nat := c / 16 ^ k % 16
theorem nib_lt (c k : Nat) : nib c k < 16 := Nat.mod_lt _ (by omega)
/-- The digits from place k - 1 down to place 0. -/
def shS (c : Nat) : Nat → ByteArray
  | 0 => { data := #[] }
  | k + 1 => dgS (nib c k) ++ shS c k
theorem shS_succ (c k : Nat) : shS c (k + 1) = dgS (nib c k) ++ shS c k := rfl
theorem shS_size (c k : Nat) : (shS c k).size = k := by
  induction k with
  | zero => rfl
  | succ k ih => rw [shS_succ, ByteArray.size_append, ih, dgS_size _ (nib_lt c k)]; omega
attribute [irreducible] dgS shS
theorem div_step (c k : Nat) : c / 16 ^ k / 16 = c / 16 ^ (k + 1) := by rw [Nat.div_div_eq_div_mul, Nat.pow_succ]
theorem ref_Show (c : Nat) (w : World) (hc : c < 4294967296) : Calls Try.prog 31 #[.int .u32 c] w fun e w' => e = .returned (.string (shS c 8)) ∧ w = w' := by
  go_enter Try.func31, Try.ntmps31
  go_wp2
  go_loop [3, 4, 5] (fun v n i => ∃ (k q : Nat), k ≤ 8 ∧ i = .int .i64 k ∧ Hid (q = c / 16 ^ k) ∧ q < 4294967296 ∧ n = .int .i64 q ∧ v = .string (shS c k)) (fun _ _ i => 8 - (intOf i).toNat)
  case atStart => exact ⟨0, c, by omega, rfl, Lib.hid (by simp), hc, rfl, by unfold shS; rfl⟩
  case round =>
    obtain ⟨k, q, hk, rfl, hq, hqb, rfl, rfl⟩ := hrel
    by_cases hlt : k < 8
    · obtain ⟨d, hd⟩ : ∃ d : Nat, d = q % 16 := ⟨_, rfl⟩
      have ed : (q : Int) % 16 = (d : Int) := by omega
      have d16 : d < 16 := by omega
      obtain ⟨q2, hq2⟩ : ∃ q2 : Nat, q2 = q / 16 := ⟨_, rfl⟩
      have eq2 : (q : Int) / 16 = (q2 : Int) := by omega
      have hq2b : q2 < 4294967296 := by omega
      have HQ2 := Lib.hid (show q2 = c / 16 ^ (k + 1) from by rw [← div_step, ← hq.out]; exact hq2)
      have HD := Lib.hid (show nib c k = d from by unfold nib; rw [← hq.out]; exact hd.symm)
      have HS := Lib.hid (shS_succ c k)
      have hz := shS_size c k
      have h1 := dgS_size d d16
      have ex := dgS_def d
      clear hd hq2
      go_wp2
      go_round
      case rel => exact ⟨k + 1, q2, by omega, by go_num, HQ2, hq2b, rfl, by rw [HS.out, HD.out]⟩
      case measure => simp [intOf]; omega
    · obtain rfl : k = 8 := by omega
      go_wp2
      (go_ret; refine ⟨?_, rfl⟩); rfl
theorem wraps_u32' (n : Int) (h₀ : 0 ≤ n) (h₁ : n < 2 ^ 32) : IntKind.u32.wrap n = n := by rw [IntKind.wrap_u32]; omega
theorem and15 (x : Int) (h₀ : 0 ≤ x) (h₁ : x < 4294967296) : bits .and .u32 x 15 = x % 16 := bits_mask .u32 32 (by decide) wraps_u32' 4 (by decide) x h₀ (by omega)
def dgB (n : Nat) : UInt8 := if n < 10 then UInt8.ofNat (48 + n) else UInt8.ofNat (87 + n)
theorem idx_dg (n : Nat) (h : n < 16) (w : World) : (Instr.index 9 (.string { data := #[48, 49, 50, 51, 52, 53, 54, 55, 56, 57, 97, 98, 99, 100, 101, 102] }) (.int .u32 n)).run Try.prog w = .ok (.int .u8 ((dgB n).toNat : Int)) w := by
  have h' : n < (ByteArray.mk #[48, 49, 50, 51, 52, 53, 54, 55, 56, 57, 97, 98, 99, 100, 101, 102]).size := h
  rw [run_index_string (h := Try.underlying9)]
  have e : ∀ m : Fin 16, ((ByteArray.mk #[48, 49, 50, 51, 52, 53, 54, 55, 56, 57, 97, 98, 99, 100, 101, 102])[m.val]'m.isLt).toNat = (dgB m.val).toNat := by decide +kernel
  have e' := e ⟨n, h⟩
  simp only at e'
  rw [dif_pos ⟨by omega, by exact_mod_cast h'⟩]
  simp only [Int.toNat_natCast]
  rw [e']
theorem bc_snoc (l : List UInt8) (x : UInt8) : Lib.byteCells (l ++ [x]) = Lib.byteCells l ++ [.int .u8 (x.toNat : Int)] := by simp [Lib.byteCells]
theorem dgS_list (n : Nat) (h : n < 16) : (dgS n).data.toList = [dgB n] := by
  have : ∀ n : Fin 16, (dgS n.val).data.toList = [dgB n.val] := by unfold dgS; decide +kernel
  exact this ⟨n, h⟩
theorem shS_list (c : Nat) : (shS c 8) = ⟨([dgB (nib c 7), dgB (nib c 6), dgB (nib c 5), dgB (nib c 4), dgB (nib c 3), dgB (nib c 2), dgB (nib c 1), dgB (nib c 0)]).toArray⟩ := by
  apply ByteArray.ext
  apply Array.ext'
  simp only [shS_succ, ByteArray.data_append, Array.toList_append, dgS_list _ (nib_lt _ _)]
  unfold shS
  rfl
set_option maxHeartbeats 4000000 in
theorem col_Show (c : Nat) (w : World) (hc : c < 4294967296) : Calls Try.prog 28 #[.int .u32 c] w fun e w' => e = .returned (.string (shS c 8)) ∧ Below w.heap.size w w' := by
  rw [shS_list c]
  obtain ⟨n0, hn0⟩ : ∃ n, n = nib c 0 := ⟨_, rfl⟩
  have b0 : n0 < 16 := by rw [hn0]; exact nib_lt _ _
  have i0 := fun w => idx_dg n0 b0 w
  have m0 : bits .and .u32 (c : Int) 15 = (n0 : Int) := by rw [and15 _ (by omega) (by omega), hn0]; unfold nib; simp
  obtain ⟨n1, hn1⟩ : ∃ n, n = nib c 1 := ⟨_, rfl⟩
  have b1 : n1 < 16 := by rw [hn1]; exact nib_lt _ _
  have i1 := fun w => idx_dg n1 b1 w
  have m1 : bits .and .u32 ((c : Int) / 16) 15 = (n1 : Int) := by rw [and15 _ (by omega) (by omega), hn1]; unfold nib; norm_cast
  obtain ⟨n2, hn2⟩ : ∃ n, n = nib c 2 := ⟨_, rfl⟩
  have b2 : n2 < 16 := by rw [hn2]; exact nib_lt _ _
  have i2 := fun w => idx_dg n2 b2 w
  have m2 : bits .and .u32 ((c : Int) / 256) 15 = (n2 : Int) := by rw [and15 _ (by omega) (by omega), hn2]; unfold nib; norm_cast
  obtain ⟨n3, hn3⟩ : ∃ n, n = nib c 3 := ⟨_, rfl⟩
  have b3 : n3 < 16 := by rw [hn3]; exact nib_lt _ _
  have i3 := fun w => idx_dg n3 b3 w
  have m3 : bits .and .u32 ((c : Int) / 4096) 15 = (n3 : Int) := by rw [and15 _ (by omega) (by omega), hn3]; unfold nib; norm_cast
  obtain ⟨n4, hn4⟩ : ∃ n, n = nib c 4 := ⟨_, rfl⟩
  have b4 : n4 < 16 := by rw [hn4]; exact nib_lt _ _
  have i4 := fun w => idx_dg n4 b4 w
  have m4 : bits .and .u32 ((c : Int) / 65536) 15 = (n4 : Int) := by rw [and15 _ (by omega) (by omega), hn4]; unfold nib; norm_cast
  obtain ⟨n5, hn5⟩ : ∃ n, n = nib c 5 := ⟨_, rfl⟩
  have b5 : n5 < 16 := by rw [hn5]; exact nib_lt _ _
  have i5 := fun w => idx_dg n5 b5 w
  have m5 : bits .and .u32 ((c : Int) / 1048576) 15 = (n5 : Int) := by rw [and15 _ (by omega) (by omega), hn5]; unfold nib; norm_cast
  obtain ⟨n6, hn6⟩ : ∃ n, n = nib c 6 := ⟨_, rfl⟩
  have b6 : n6 < 16 := by rw [hn6]; exact nib_lt _ _
  have i6 := fun w => idx_dg n6 b6 w
  have m6 : bits .and .u32 ((c : Int) / 16777216) 15 = (n6 : Int) := by rw [and15 _ (by omega) (by omega), hn6]; unfold nib; norm_cast
  obtain ⟨n7, hn7⟩ : ∃ n, n = nib c 7 := ⟨_, rfl⟩
  have b7 : n7 < 16 := by rw [hn7]; exact nib_lt _ _
  have i7 := fun w => idx_dg n7 b7 w
  have m7 : bits .and .u32 ((c : Int) / 268435456) 15 = (n7 : Int) := by rw [and15 _ (by omega) (by omega), hn7]; unfold nib; norm_cast
  rw [← hn0, ← hn1, ← hn2, ← hn3, ← hn4, ← hn5, ← hn6, ← hn7]
  clear hn0 hn1 hn2 hn3 hn4 hn5 hn6 hn7
  go_enter Try.func28, Try.ntmps28
  go_wp2
  refine wp_loop_rounds 9 ?_
  have hq0 : Lib.IsBuilder 49 5 w.heap.size w.heap.size (Lib.byteCells []) (w.alloc (.cells #[.pointer none, .slice none 0 0] 49)) := Lib.fresh_isBuilder _ _ _
  have hI0 : Lib.IsBuilder 49 5 w.heap.size w.heap.size (Lib.byteCells []) (w.alloc (.cells #[.pointer none, .slice none 0 0] 49)) := hq0
  clear hq0
  rw [rounds_succ]
  go_wp2_with (first | (go_at_call 36; (with_reducible refine (bl_WriteByte w.heap.size w.heap.size (Lib.byteCells ([])) _ _ hI0 ?_ ?_).mono ?_); (focus (simp [Lib.byteCells]; done)); (focus (first | omega | (simp; done) | (simp; omega))); rintro e w1 ⟨rfl, hq1, hb1⟩; have hz1 := hb1.size; (try simp only [World.size_alloc] at hz1)))
  have hI1 : Lib.IsBuilder 49 5 w.heap.size w.heap.size (Lib.byteCells [dgB n7]) w1 := .inr (by have := hq1; rw [show [dgB n7] = ([] : List UInt8) ++ [dgB n7] from rfl, bc_snoc]; exact this)
  clear hI0 hq1
  rw [rounds_succ]
  go_wp2_with (first | (go_at_call 36; (with_reducible refine (bl_WriteByte w.heap.size w.heap.size (Lib.byteCells ([dgB n7])) _ _ hI1 ?_ ?_).mono ?_); (focus (simp [Lib.byteCells]; done)); (focus (first | omega | (simp; done) | (simp; omega))); rintro e w2 ⟨rfl, hq2, hb2⟩; have hz2 := hb2.size; (try simp only [World.size_alloc] at hz2)))
  have hI2 : Lib.IsBuilder 49 5 w.heap.size w.heap.size (Lib.byteCells [dgB n7, dgB n6]) w2 := .inr (by have := hq2; rw [show [dgB n7, dgB n6] = [dgB n7] ++ [dgB n6] from rfl, bc_snoc]; exact this)
  clear hI1 hq2
  rw [rounds_succ]
  go_wp2_with (first | (go_at_call 36; (with_reducible refine (bl_WriteByte w.heap.size w.heap.size (Lib.byteCells ([dgB n7, dgB n6])) _ _ hI2 ?_ ?_).mono ?_); (focus (simp [Lib.byteCells]; done)); (focus (first | omega | (simp; done) | (simp; omega))); rintro e w3 ⟨rfl, hq3, hb3⟩; have hz3 := hb3.size; (try simp only [World.size_alloc] at hz3)))
  have hI3 : Lib.IsBuilder 49 5 w.heap.size w.heap.size (Lib.byteCells [dgB n7, dgB n6, dgB n5]) w3 := .inr (by have := hq3; rw [show [dgB n7, dgB n6, dgB n5] = [dgB n7, dgB n6] ++ [dgB n5] from rfl, bc_snoc]; exact this)
  clear hI2 hq3
  rw [rounds_succ]
  go_wp2_with (first | (go_at_call 36; (with_reducible refine (bl_WriteByte w.heap.size w.heap.size (Lib.byteCells ([dgB n7, dgB n6, dgB n5])) _ _ hI3 ?_ ?_).mono ?_); (focus (simp [Lib.byteCells]; done)); (focus (first | omega | (simp; done) | (simp; omega))); rintro e w4 ⟨rfl, hq4, hb4⟩; have hz4 := hb4.size; (try simp only [World.size_alloc] at hz4)))
  have hI4 : Lib.IsBuilder 49 5 w.heap.size w.heap.size (Lib.byteCells [dgB n7, dgB n6, dgB n5, dgB n4]) w4 := .inr (by have := hq4; rw [show [dgB n7, dgB n6, dgB n5, dgB n4] = [dgB n7, dgB n6, dgB n5] ++ [dgB n4] from rfl, bc_snoc]; exact this)
  clear hI3 hq4
  rw [rounds_succ]
  go_wp2_with (first | (go_at_call 36; (with_reducible refine (bl_WriteByte w.heap.size w.heap.size (Lib.byteCells ([dgB n7, dgB n6, dgB n5, dgB n4])) _ _ hI4 ?_ ?_).mono ?_); (focus (simp [Lib.byteCells]; done)); (focus (first | omega | (simp; done) | (simp; omega))); rintro e w5 ⟨rfl, hq5, hb5⟩; have hz5 := hb5.size; (try simp only [World.size_alloc] at hz5)))
  have hI5 : Lib.IsBuilder 49 5 w.heap.size w.heap.size (Lib.byteCells [dgB n7, dgB n6, dgB n5, dgB n4, dgB n3]) w5 := .inr (by have := hq5; rw [show [dgB n7, dgB n6, dgB n5, dgB n4, dgB n3] = [dgB n7, dgB n6, dgB n5, dgB n4] ++ [dgB n3] from rfl, bc_snoc]; exact this)
  clear hI4 hq5
  rw [rounds_succ]
  go_wp2_with (first | (go_at_call 36; (with_reducible refine (bl_WriteByte w.heap.size w.heap.size (Lib.byteCells ([dgB n7, dgB n6, dgB n5, dgB n4, dgB n3])) _ _ hI5 ?_ ?_).mono ?_); (focus (simp [Lib.byteCells]; done)); (focus (first | omega | (simp; done) | (simp; omega))); rintro e w6 ⟨rfl, hq6, hb6⟩; have hz6 := hb6.size; (try simp only [World.size_alloc] at hz6)))
  have hI6 : Lib.IsBuilder 49 5 w.heap.size w.heap.size (Lib.byteCells [dgB n7, dgB n6, dgB n5, dgB n4, dgB n3, dgB n2]) w6 := .inr (by have := hq6; rw [show [dgB n7, dgB n6, dgB n5, dgB n4, dgB n3, dgB n2] = [dgB n7, dgB n6, dgB n5, dgB n4, dgB n3] ++ [dgB n2] from rfl, bc_snoc]; exact this)
  clear hI5 hq6
  rw [rounds_succ]
  go_wp2_with (first | (go_at_call 36; (with_reducible refine (bl_WriteByte w.heap.size w.heap.size (Lib.byteCells ([dgB n7, dgB n6, dgB n5, dgB n4, dgB n3, dgB n2])) _ _ hI6 ?_ ?_).mono ?_); (focus (simp [Lib.byteCells]; done)); (focus (first | omega | (simp; done) | (simp; omega))); rintro e w7 ⟨rfl, hq7, hb7⟩; have hz7 := hb7.size; (try simp only [World.size_alloc] at hz7)))
  have hI7 : Lib.IsBuilder 49 5 w.heap.size w.heap.size (Lib.byteCells [dgB n7, dgB n6, dgB n5, dgB n4, dgB n3, dgB n2, dgB n1]) w7 := .inr (by have := hq7; rw [show [dgB n7, dgB n6, dgB n5, dgB n4, dgB n3, dgB n2, dgB n1] = [dgB n7, dgB n6, dgB n5, dgB n4, dgB n3, dgB n2] ++ [dgB n1] from rfl, bc_snoc]; exact this)
  clear hI6 hq7
  rw [rounds_succ]
  go_wp2_with (first | (go_at_call 36; (with_reducible refine (bl_WriteByte w.heap.size w.heap.size (Lib.byteCells ([dgB n7, dgB n6, dgB n5, dgB n4, dgB n3, dgB n2, dgB n1])) _ _ hI7 ?_ ?_).mono ?_); (focus (simp [Lib.byteCells]; done)); (focus (first | omega | (simp; done) | (simp; omega))); rintro e w8 ⟨rfl, hq8, hb8⟩; have hz8 := hb8.size; (try simp only [World.size_alloc] at hz8)))
  have hI8 : Lib.IsBuilder 49 5 w.heap.size w.heap.size (Lib.byteCells [dgB n7, dgB n6, dgB n5, dgB n4, dgB n3, dgB n2, dgB n1, dgB n0]) w8 := .inr (by have := hq8; rw [show [dgB n7, dgB n6, dgB n5, dgB n4, dgB n3, dgB n2, dgB n1, dgB n0] = [dgB n7, dgB n6, dgB n5, dgB n4, dgB n3, dgB n2, dgB n1] ++ [dgB n0] from rfl, bc_snoc]; exact this)
  clear hI7 hq8
  rw [rounds_succ]
  go_wp2_with (first | (go_at_call 37; (with_reducible refine (bl_String w.heap.size w.heap.size [dgB n7, dgB n6, dgB n5, dgB n4, dgB n3, dgB n2, dgB n1, dgB n0] _ hI8 (by simp)).mono ?_); rintro e w9 ⟨rfl, hb9⟩))
  go_ret
  refine ⟨rfl, ?_⟩
  exact (((((((((Below.refl _ _).alloc (Nat.le_refl _) _).trans hb1).trans hb2).trans hb3).trans hb4).trans hb5).trans hb6).trans hb7).trans hb8 |>.trans hb9
end Go.Proofs.Ytmchgchhmhhnkaa
