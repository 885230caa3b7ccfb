/- The signs of a text, the document's: one sign, and what is odd. -/
import Derived.Test.YtinnaiofgbjicaaDoorTitE
namespace Go.Proofs.YtinnaiofgbjicaaDoor
open Go.RowKit Go.Proofs.YtinnaiofgbjicaaDoorW.PrintWords
set_option linter.unusedSimpArgs false
set_option linter.unusedVariables false
set_option maxRecDepth 1000000
theorem byN_get (s : ByteArray) (i : Nat) : byN s i = ((s.get! i).toNat : Int) := by
  unfold byN
  split
  · rename_i h
    congr 2
    obtain ⟨x, h1, h2⟩ := get_list h
    rw [h2]
    have h' : i < s.data.toList.length := by rw [size_list]; exact h
    rw [List.getElem?_eq_getElem h'] at h1
    rw [← Option.some.inj h1]
    simp [ByteArray.getElem_eq_getElem_data]
  · rename_i h
    rw [get_out h]; rfl
/-- The six bits of a byte of 128 to 191; or -1. -/
def tlv (s : ByteArray) (i : Nat) : Int := if i < s.size ∧ 128 ≤ byN s i ∧ byN s i ≤ 191 then byN s i - 128 else -1
theorem r6_tail (s : ByteArray) (i : Nat) (hi : i ≤ 10000000) (hs : s.size ≤ 1000000) (w : World) : Calls Tryd.prog 106 #[.string s, .int .i64 i] w fun e w' => e = .returned (.int .i64 (tlv s i)) ∧ Below w.heap.size w w' := by
  unfold tlv
  by_cases hlt : i < s.size
  · have it := fun w => idx_string s i hlt w
    have eb := byN_at s i hlt
    have hb := byN_bd s i
    generalize byN s i = c at *
    by_cases h1 : 128 ≤ c
    · by_cases h2 : c ≤ 191
      · rw [if_pos ⟨hlt, h1, h2⟩]
        go_enter Tryd.func106, Tryd.ntmps106
        go_wp2
        (go_ret; refine ⟨?_, by (repeat (first | (with_reducible exact Below.refl _ _) | ((with_reducible refine Below.alloc ?_ ?hB _); (case hB => (first | omega | (simp; done) | (simp; omega)))) | ((with_reducible refine Below.setCell ?_ ?hB _); (case hB => (first | omega | (simp; done) | (simp; omega)))) | (with_reducible refine Below.drew ?_) | ((with_reducible refine below_ext_of ?_ ?hB); (case hB => (first | omega | (simp; done) | (simp; omega)))) | ((with_reducible refine Below.trans ?_ (Below.mono (by assumption) ?hB)); (case hB => (first | omega | (simp; done) | (simp; omega))))))⟩); rfl
      · rw [if_neg (fun h => h2 h.2.2)]
        go_enter Tryd.func106, Tryd.ntmps106
        go_wp2
        (go_ret; refine ⟨?_, by (repeat (first | (with_reducible exact Below.refl _ _) | ((with_reducible refine Below.alloc ?_ ?hB _); (case hB => (first | omega | (simp; done) | (simp; omega)))) | ((with_reducible refine Below.setCell ?_ ?hB _); (case hB => (first | omega | (simp; done) | (simp; omega)))) | (with_reducible refine Below.drew ?_) | ((with_reducible refine below_ext_of ?_ ?hB); (case hB => (first | omega | (simp; done) | (simp; omega)))) | ((with_reducible refine Below.trans ?_ (Below.mono (by assumption) ?hB)); (case hB => (first | omega | (simp; done) | (simp; omega))))))⟩); rfl
    · rw [if_neg (fun h => h1 h.2.1)]
      go_enter Tryd.func106, Tryd.ntmps106
      go_wp2
      (go_ret; refine ⟨?_, by (repeat (first | (with_reducible exact Below.refl _ _) | ((with_reducible refine Below.alloc ?_ ?hB _); (case hB => (first | omega | (simp; done) | (simp; omega)))) | ((with_reducible refine Below.setCell ?_ ?hB _); (case hB => (first | omega | (simp; done) | (simp; omega)))) | (with_reducible refine Below.drew ?_) | ((with_reducible refine below_ext_of ?_ ?hB); (case hB => (first | omega | (simp; done) | (simp; omega)))) | ((with_reducible refine Below.trans ?_ (Below.mono (by assumption) ?hB)); (case hB => (first | omega | (simp; done) | (simp; omega))))))⟩); rfl
  · rw [if_neg (fun h => hlt h.1)]
    go_enter Tryd.func106, Tryd.ntmps106
    go_wp2
    (go_ret; refine ⟨?_, by (repeat (first | (with_reducible exact Below.refl _ _) | ((with_reducible refine Below.alloc ?_ ?hB _); (case hB => (first | omega | (simp; done) | (simp; omega)))) | ((with_reducible refine Below.setCell ?_ ?hB _); (case hB => (first | omega | (simp; done) | (simp; omega)))) | (with_reducible refine Below.drew ?_) | ((with_reducible refine below_ext_of ?_ ?hB); (case hB => (first | omega | (simp; done) | (simp; omega)))) | ((with_reducible refine Below.trans ?_ (Below.mono (by assumption) ?hB)); (case hB => (first | omega | (simp; done) | (simp; omega))))))⟩); rfl
/-- The sign that four bytes begin with, as the document has it. -/
def oneF (c x y z : Int) : Int × Int × Bool :=
  if c < 128 then (1, c, false)
  else if (194 ≤ c ∧ c ≤ 223) ∧ 0 ≤ x then (2, (c - 192) * 64 + x, false)
  else if (((224 ≤ c ∧ c ≤ 239) ∧ 0 ≤ x) ∧ 0 ≤ y) ∧ 2048 ≤ (c - 224) * 4096 + x * 64 + y ∧ ((c - 224) * 4096 + x * 64 + y < 55296 ∨ 57343 < (c - 224) * 4096 + x * 64 + y) then (3, (c - 224) * 4096 + x * 64 + y, false)
  else if ((((240 ≤ c ∧ c ≤ 244) ∧ 0 ≤ x) ∧ 0 ≤ y) ∧ 0 ≤ z) ∧ 65536 ≤ (c - 240) * 262144 + x * 4096 + y * 64 + z ∧ (c - 240) * 262144 + x * 4096 + y * 64 + z ≤ 1114111 then (4, (c - 240) * 262144 + x * 4096 + y * 64 + z, false)
  else (1, 65533, true)
theorem oneF_sg (s : ByteArray) (i : Nat) (hi : i < s.size) : oneF (byN s i) (tlv s (i + 1)) (tlv s (i + 2)) (tlv s (i + 3)) = ((((sg s i).2 : Nat) : Int), (((sg s i).1 : Nat) : Int), brk (sg s i)) := by
  unfold tlv sg
  rw [Lib.decode_at]
  simp only [byN_get]
  have l0 := UInt8.toNat_lt (s.get! i); have l1 := UInt8.toNat_lt (s.get! (i + 1)); have l2 := UInt8.toNat_lt (s.get! (i + 2)); have l3 := UInt8.toNat_lt (s.get! (i + 3))
  generalize (s.get! i).toNat = d0 at *
  generalize (s.get! (i + 1)).toNat = d1 at *
  generalize (s.get! (i + 2)).toNat = d2 at *
  generalize (s.get! (i + 3)).toNat = d3 at *
  have e1 : (i + 1 < s.size) ↔ 1 < s.size - i := by omega
  have e2 : (i + 2 < s.size) ↔ 2 < s.size - i := by omega
  have e3 : (i + 3 < s.size) ↔ 3 < s.size - i := by omega
  simp only [e1, e2, e3]
  have hn : 1 ≤ s.size - i := by omega
  generalize s.size - i = n at *
  have tv : ∀ (k d : Nat), d < 256 → ((k < n ∧ d / 64 = 2 ∧ (if k < n ∧ 128 ≤ (d : Int) ∧ (d : Int) ≤ 191 then (d : Int) - 128 else -1) = (d : Int) - 128) ∨ (¬ (k < n ∧ d / 64 = 2) ∧ (if k < n ∧ 128 ≤ (d : Int) ∧ (d : Int) ≤ 191 then (d : Int) - 128 else -1) = -1)) := fun k d hd => by
    by_cases h : k < n ∧ 128 ≤ (d : Int) ∧ (d : Int) ≤ 191
    · rw [if_pos h]; left; exact ⟨h.1, by omega, rfl⟩
    · rw [if_neg h]; right; exact ⟨by omega, rfl⟩
  have x1 := tv 1 d1 l1; have x2 := tv 2 d2 l2; have x3 := tv 3 d3 l3
  clear tv e1 e2 e3
  generalize (if 1 < n ∧ 128 ≤ (d1 : Int) ∧ (d1 : Int) ≤ 191 then (d1 : Int) - 128 else -1) = x at *
  generalize (if 2 < n ∧ 128 ≤ (d2 : Int) ∧ (d2 : Int) ≤ 191 then (d2 : Int) - 128 else -1) = y at *
  generalize (if 3 < n ∧ 128 ≤ (d3 : Int) ∧ (d3 : Int) ≤ 191 then (d3 : Int) - 128 else -1) = z at *
  have bk : ∀ (r m : Nat), 2 ≤ m → brk (r, m) = false := fun r m h => by unfold brk; simp; omega
  have b0 : ∀ r : Nat, r < 128 → brk (r, 1) = false := fun r h => by unfold brk; simp; omega
  unfold Lib.decodeN
  split
  · rw [b0 _ ‹_›]
    unfold oneF; rw [if_pos (by omega)]; rfl
  · split
    · split
      · rw [bk _ _ (by omega)]
        unfold oneF; rw [if_neg (by omega), if_pos (by omega)]
        simp only [Prod.mk.injEq, and_true]; constructor <;> omega
      · unfold oneF; rw [if_neg (by omega), if_neg (by omega), if_neg (by omega), if_neg (by omega)]; rfl
    · split
      · split
        · rw [bk _ _ (by omega)]
          unfold oneF; rw [if_neg (by omega), if_neg (by omega), if_pos (by omega)]
          simp only [Prod.mk.injEq, and_true]; constructor <;> omega
        · unfold oneF; rw [if_neg (by omega), if_neg (by omega), if_neg (by omega), if_neg (by omega)]; rfl
      · split
        · split
          · rw [bk _ _ (by omega)]
            unfold oneF; rw [if_neg (by omega), if_neg (by omega), if_neg (by omega), if_pos (by omega)]
            simp only [Prod.mk.injEq, and_true]; constructor <;> omega
          · unfold oneF; rw [if_neg (by omega), if_neg (by omega), if_neg (by omega), if_neg (by omega)]; rfl
        · unfold oneF; rw [if_neg (by omega), if_neg (by omega), if_neg (by omega), if_neg (by omega)]; rfl
theorem r6_odd (r : Nat) (w : World) : Calls Tryd.prog 64 #[.int .i64 (r : Int)] w fun e w' => e = .returned (.bool (oddN r)) ∧ Below w.heap.size w w' := by
  unfold oddN
  go_enter Tryd.func64, Tryd.ntmps64
  go_wp2
  all_goals (go_ret; refine ⟨congrArg (fun x => Ending.returned (.bool x)) ?_, by (repeat (first | (with_reducible exact Below.refl _ _) | ((with_reducible refine Below.alloc ?_ ?hB _); (case hB => (first | omega | (simp; done) | (simp; omega)))) | ((with_reducible refine Below.setCell ?_ ?hB _); (case hB => (first | omega | (simp; done) | (simp; omega)))) | (with_reducible refine Below.drew ?_) | ((with_reducible refine below_ext_of ?_ ?hB); (case hB => (first | omega | (simp; done) | (simp; omega)))) | ((with_reducible refine Below.trans ?_ (Below.mono (by assumption) ?hB)); (case hB => (first | omega | (simp; done) | (simp; omega))))))⟩; (first | rfl | (rw [Bool.eq_iff_iff]; simp []; done) | (rw [Bool.eq_iff_iff]; simp []; omega)))
end Go.Proofs.YtinnaiofgbjicaaDoor
namespace Go.Proofs.YtinnaiofgbjicaaDoor
open Go.RowKit Go.Proofs.YtinnaiofgbjicaaDoorW.PrintWords
set_option linter.unusedSimpArgs false
set_option linter.unusedVariables false
set_option maxRecDepth 1000000
set_option maxHeartbeats 4000000 in
theorem r6_oneF (s : ByteArray) (i : Nat) (hi : i < s.size) (hs : s.size ≤ 1000000) (w : World) (c x y z : Int) (hc : byN s i = c) (hx : tlv s (i + 1) = x) (hy : tlv s (i + 2) = y) (hz : tlv s (i + 3) = z) : Calls Tryd.prog 93 #[.string s, .int .i64 i] w fun e w' => e = .returned (.agg #[.int .i64 i, .int .i64 (oneF c x y z).1, .int .i64 (oneF c x y z).2.1, .bool (oneF c x y z).2.2]) ∧ Below w.heap.size w w' := by
  have it := fun w => idx_string s i hi w
  have eb := byN_at s i hi
  have hb := byN_bd s i
  have tl : ∀ j, -1 ≤ tlv s j ∧ tlv s j ≤ 63 := fun j => by unfold tlv; split <;> omega
  have h1 := tl (i + 1); have h2 := tl (i + 2); have h3 := tl (i + 3)
  have c1 : ∀ w, Calls Tryd.prog 106 #[.string s, .int .i64 ((i : Int) + 1)] w fun e w' => e = .returned (.int .i64 (tlv s (i + 1))) ∧ Below w.heap.size w w' := fun w => r6_tail s (i + 1) (by omega) hs w
  have c2 : ∀ w, Calls Tryd.prog 106 #[.string s, .int .i64 ((i : Int) + 2)] w fun e w' => e = .returned (.int .i64 (tlv s (i + 2))) ∧ Below w.heap.size w w' := fun w => r6_tail s (i + 2) (by omega) hs w
  have c3 : ∀ w, Calls Tryd.prog 106 #[.string s, .int .i64 ((i : Int) + 3)] w fun e w' => e = .returned (.int .i64 (tlv s (i + 3))) ∧ Below w.heap.size w w' := fun w => r6_tail s (i + 3) (by omega) hs w
  rw [hc] at eb hb
  rw [hx] at h1 c1
  rw [hy] at h2 c2
  rw [hz] at h3 c3
  clear tl hc hx hy hz
  generalize hR : oneF c x y z = R
  have HR := Lib.hid hR
  clear hR
  go_enter Tryd.func93, Tryd.ntmps93
  go_upto_region 5 with (first | (go_at_call 106; (with_reducible refine (c1 _).mono ?_); rintro en w1 ⟨rfl, hb1⟩; obtain ⟨hc1, hf1⟩ := bcell hb1; have hz1 := hb1.size; (try simp only [World.size_alloc, World.size_setCell, World.size_drew] at hz1)) | (go_at_call 106; (with_reducible refine (c2 _).mono ?_); rintro en w2 ⟨rfl, hb2⟩; obtain ⟨hc2, hf2⟩ := bcell hb2; have hz2 := hb2.size; (try simp only [World.size_alloc, World.size_setCell, World.size_drew] at hz2)) | (go_at_call 106; (with_reducible refine (c3 _).mono ?_); rintro en w3 ⟨rfl, hb3⟩; obtain ⟨hc3, hf3⟩ := bcell hb3; have hz3 := hb3.size; (try simp only [World.size_alloc, World.size_setCell, World.size_drew] at hz3)))
  rcases Int.lt_or_le c 128 with q1 | q1
  · have e := HR.out
    have e1 : oneF c x y z = (1, c, false) := by unfold oneF; rw [if_pos (by omega)]
    rw [e1] at e
    subst e
    clear e1 HR
    go_wp2
    (refine bodyPost_ret (v := (.agg #[.int .i64 i, .int .i64 1, .int .i64 (c), .bool false])) (by simp [results, Tryd.results93, go_sem, ↓IntWalk.iteOmega, *]) rfl ?_; exact ⟨rfl, by (repeat (first | (with_reducible exact Below.refl _ _) | ((with_reducible refine Below.alloc ?_ ?hB _); (case hB => (first | omega | (simp; done) | (simp; omega)))) | ((with_reducible refine Below.setCell ?_ ?hB _); (case hB => (first | omega | (simp; done) | (simp; omega)))) | (with_reducible refine Below.drew ?_) | ((with_reducible refine below_ext_of ?_ ?hB); (case hB => (first | omega | (simp; done) | (simp; omega)))) | ((with_reducible refine Below.trans ?_ (Below.mono (by assumption) ?hB)); (case hB => (first | omega | (simp; done) | (simp; omega))))))⟩)
  rcases Int.lt_or_le c 194 with q2 | q2
  · have e := HR.out
    have e1 : oneF c x y z = (1, 65533, true) := by unfold oneF; rw [if_neg (by omega), if_neg (by omega), if_neg (by omega), if_neg (by omega)]
    rw [e1] at e
    subst e
    clear e1 HR
    go_wp2
    (refine bodyPost_ret (v := (.agg #[.int .i64 i, .int .i64 1, .int .i64 (65533), .bool true])) (by simp [results, Tryd.results93, go_sem, ↓IntWalk.iteOmega, *]) rfl ?_; exact ⟨rfl, by (repeat (first | (with_reducible exact Below.refl _ _) | ((with_reducible refine Below.alloc ?_ ?hB _); (case hB => (first | omega | (simp; done) | (simp; omega)))) | ((with_reducible refine Below.setCell ?_ ?hB _); (case hB => (first | omega | (simp; done) | (simp; omega)))) | (with_reducible refine Below.drew ?_) | ((with_reducible refine below_ext_of ?_ ?hB); (case hB => (first | omega | (simp; done) | (simp; omega)))) | ((with_reducible refine Below.trans ?_ (Below.mono (by assumption) ?hB)); (case hB => (first | omega | (simp; done) | (simp; omega))))))⟩)
  rcases Int.lt_or_le c 224 with q3 | q3
  · rcases Int.lt_or_le x 0 with q4 | q4
    · have e := HR.out
      have e1 : oneF c x y z = (1, 65533, true) := by unfold oneF; rw [if_neg (by omega), if_neg (by omega), if_neg (by omega), if_neg (by omega)]
      rw [e1] at e
      subst e
      clear e1 HR
      go_wp2
      (refine bodyPost_ret (v := (.agg #[.int .i64 i, .int .i64 1, .int .i64 (65533), .bool true])) (by simp [results, Tryd.results93, go_sem, ↓IntWalk.iteOmega, *]) rfl ?_; exact ⟨rfl, by (repeat (first | (with_reducible exact Below.refl _ _) | ((with_reducible refine Below.alloc ?_ ?hB _); (case hB => (first | omega | (simp; done) | (simp; omega)))) | ((with_reducible refine Below.setCell ?_ ?hB _); (case hB => (first | omega | (simp; done) | (simp; omega)))) | (with_reducible refine Below.drew ?_) | ((with_reducible refine below_ext_of ?_ ?hB); (case hB => (first | omega | (simp; done) | (simp; omega)))) | ((with_reducible refine Below.trans ?_ (Below.mono (by assumption) ?hB)); (case hB => (first | omega | (simp; done) | (simp; omega))))))⟩)
    have e := HR.out
    have e1 : oneF c x y z = (2, (c - 192) * 64 + x, false) := by unfold oneF; rw [if_neg (by omega), if_pos (by omega)]
    rw [e1] at e
    subst e
    clear e1 HR
    go_wp2
    (refine bodyPost_ret (v := (.agg #[.int .i64 i, .int .i64 2, .int .i64 ((c - 192) * 64 + x), .bool false])) (by simp [results, Tryd.results93, go_sem, ↓IntWalk.iteOmega, *]) rfl ?_; exact ⟨rfl, by (repeat (first | (with_reducible exact Below.refl _ _) | ((with_reducible refine Below.alloc ?_ ?hB _); (case hB => (first | omega | (simp; done) | (simp; omega)))) | ((with_reducible refine Below.setCell ?_ ?hB _); (case hB => (first | omega | (simp; done) | (simp; omega)))) | (with_reducible refine Below.drew ?_) | ((with_reducible refine below_ext_of ?_ ?hB); (case hB => (first | omega | (simp; done) | (simp; omega)))) | ((with_reducible refine Below.trans ?_ (Below.mono (by assumption) ?hB)); (case hB => (first | omega | (simp; done) | (simp; omega))))))⟩)
  rcases Int.lt_or_le c 240 with q5 | q5
  · rcases Int.lt_or_le x 0 with q6 | q6
    · have e := HR.out
      have e1 : oneF c x y z = (1, 65533, true) := by unfold oneF; rw [if_neg (by omega), if_neg (by omega), if_neg (by omega), if_neg (by omega)]
      rw [e1] at e
      subst e
      clear e1 HR
      go_wp2
      (refine bodyPost_ret (v := (.agg #[.int .i64 i, .int .i64 1, .int .i64 (65533), .bool true])) (by simp [results, Tryd.results93, go_sem, ↓IntWalk.iteOmega, *]) rfl ?_; exact ⟨rfl, by (repeat (first | (with_reducible exact Below.refl _ _) | ((with_reducible refine Below.alloc ?_ ?hB _); (case hB => (first | omega | (simp; done) | (simp; omega)))) | ((with_reducible refine Below.setCell ?_ ?hB _); (case hB => (first | omega | (simp; done) | (simp; omega)))) | (with_reducible refine Below.drew ?_) | ((with_reducible refine below_ext_of ?_ ?hB); (case hB => (first | omega | (simp; done) | (simp; omega)))) | ((with_reducible refine Below.trans ?_ (Below.mono (by assumption) ?hB)); (case hB => (first | omega | (simp; done) | (simp; omega))))))⟩)
    rcases Int.lt_or_le y 0 with q7 | q7
    · have e := HR.out
      have e1 : oneF c x y z = (1, 65533, true) := by unfold oneF; rw [if_neg (by omega), if_neg (by omega), if_neg (by omega), if_neg (by omega)]
      rw [e1] at e
      subst e
      clear e1 HR
      go_wp2
      (refine bodyPost_ret (v := (.agg #[.int .i64 i, .int .i64 1, .int .i64 (65533), .bool true])) (by simp [results, Tryd.results93, go_sem, ↓IntWalk.iteOmega, *]) rfl ?_; exact ⟨rfl, by (repeat (first | (with_reducible exact Below.refl _ _) | ((with_reducible refine Below.alloc ?_ ?hB _); (case hB => (first | omega | (simp; done) | (simp; omega)))) | ((with_reducible refine Below.setCell ?_ ?hB _); (case hB => (first | omega | (simp; done) | (simp; omega)))) | (with_reducible refine Below.drew ?_) | ((with_reducible refine below_ext_of ?_ ?hB); (case hB => (first | omega | (simp; done) | (simp; omega)))) | ((with_reducible refine Below.trans ?_ (Below.mono (by assumption) ?hB)); (case hB => (first | omega | (simp; done) | (simp; omega))))))⟩)
    rcases Int.lt_or_le ((c - 224) * 4096 + x * 64 + y) 2048 with q8 | q8
    · have e := HR.out
      have e1 : oneF c x y z = (1, 65533, true) := by unfold oneF; rw [if_neg (by omega), if_neg (by omega), if_neg (by omega), if_neg (by omega)]
      rw [e1] at e
      subst e
      clear e1 HR
      go_wp2
      (refine bodyPost_ret (v := (.agg #[.int .i64 i, .int .i64 1, .int .i64 (65533), .bool true])) (by simp [results, Tryd.results93, go_sem, ↓IntWalk.iteOmega, *]) rfl ?_; exact ⟨rfl, by (repeat (first | (with_reducible exact Below.refl _ _) | ((with_reducible refine Below.alloc ?_ ?hB _); (case hB => (first | omega | (simp; done) | (simp; omega)))) | ((with_reducible refine Below.setCell ?_ ?hB _); (case hB => (first | omega | (simp; done) | (simp; omega)))) | (with_reducible refine Below.drew ?_) | ((with_reducible refine below_ext_of ?_ ?hB); (case hB => (first | omega | (simp; done) | (simp; omega)))) | ((with_reducible refine Below.trans ?_ (Below.mono (by assumption) ?hB)); (case hB => (first | omega | (simp; done) | (simp; omega))))))⟩)
    rcases Int.lt_or_le ((c - 224) * 4096 + x * 64 + y) 55296 with q9 | q9
    · have e := HR.out
      have e1 : oneF c x y z = (3, (c - 224) * 4096 + x * 64 + y, false) := by unfold oneF; rw [if_neg (by omega), if_neg (by omega), if_pos (by omega)]
      rw [e1] at e
      subst e
      clear e1 HR
      go_wp2
      (refine bodyPost_ret (v := (.agg #[.int .i64 i, .int .i64 3, .int .i64 ((c - 224) * 4096 + x * 64 + y), .bool false])) (by simp [results, Tryd.results93, go_sem, ↓IntWalk.iteOmega, *]) rfl ?_; exact ⟨rfl, by (repeat (first | (with_reducible exact Below.refl _ _) | ((with_reducible refine Below.alloc ?_ ?hB _); (case hB => (first | omega | (simp; done) | (simp; omega)))) | ((with_reducible refine Below.setCell ?_ ?hB _); (case hB => (first | omega | (simp; done) | (simp; omega)))) | (with_reducible refine Below.drew ?_) | ((with_reducible refine below_ext_of ?_ ?hB); (case hB => (first | omega | (simp; done) | (simp; omega)))) | ((with_reducible refine Below.trans ?_ (Below.mono (by assumption) ?hB)); (case hB => (first | omega | (simp; done) | (simp; omega))))))⟩)
    rcases Int.lt_or_le ((c - 224) * 4096 + x * 64 + y) 57344 with q10 | q10
    · have e := HR.out
      have e1 : oneF c x y z = (1, 65533, true) := by unfold oneF; rw [if_neg (by omega), if_neg (by omega), if_neg (by omega), if_neg (by omega)]
      rw [e1] at e
      subst e
      clear e1 HR
      go_wp2
      (refine bodyPost_ret (v := (.agg #[.int .i64 i, .int .i64 1, .int .i64 (65533), .bool true])) (by simp [results, Tryd.results93, go_sem, ↓IntWalk.iteOmega, *]) rfl ?_; exact ⟨rfl, by (repeat (first | (with_reducible exact Below.refl _ _) | ((with_reducible refine Below.alloc ?_ ?hB _); (case hB => (first | omega | (simp; done) | (simp; omega)))) | ((with_reducible refine Below.setCell ?_ ?hB _); (case hB => (first | omega | (simp; done) | (simp; omega)))) | (with_reducible refine Below.drew ?_) | ((with_reducible refine below_ext_of ?_ ?hB); (case hB => (first | omega | (simp; done) | (simp; omega)))) | ((with_reducible refine Below.trans ?_ (Below.mono (by assumption) ?hB)); (case hB => (first | omega | (simp; done) | (simp; omega))))))⟩)
    have e := HR.out
    have e1 : oneF c x y z = (3, (c - 224) * 4096 + x * 64 + y, false) := by unfold oneF; rw [if_neg (by omega), if_neg (by omega), if_pos (by omega)]
    rw [e1] at e
    subst e
    clear e1 HR
    go_wp2
    (refine bodyPost_ret (v := (.agg #[.int .i64 i, .int .i64 3, .int .i64 ((c - 224) * 4096 + x * 64 + y), .bool false])) (by simp [results, Tryd.results93, go_sem, ↓IntWalk.iteOmega, *]) rfl ?_; exact ⟨rfl, by (repeat (first | (with_reducible exact Below.refl _ _) | ((with_reducible refine Below.alloc ?_ ?hB _); (case hB => (first | omega | (simp; done) | (simp; omega)))) | ((with_reducible refine Below.setCell ?_ ?hB _); (case hB => (first | omega | (simp; done) | (simp; omega)))) | (with_reducible refine Below.drew ?_) | ((with_reducible refine below_ext_of ?_ ?hB); (case hB => (first | omega | (simp; done) | (simp; omega)))) | ((with_reducible refine Below.trans ?_ (Below.mono (by assumption) ?hB)); (case hB => (first | omega | (simp; done) | (simp; omega))))))⟩)
  rcases Int.lt_or_le c 245 with q11 | q11
  · rcases Int.lt_or_le x 0 with q12 | q12
    · have e := HR.out
      have e1 : oneF c x y z = (1, 65533, true) := by unfold oneF; rw [if_neg (by omega), if_neg (by omega), if_neg (by omega), if_neg (by omega)]
      rw [e1] at e
      subst e
      clear e1 HR
      go_wp2
      (refine bodyPost_ret (v := (.agg #[.int .i64 i, .int .i64 1, .int .i64 (65533), .bool true])) (by simp [results, Tryd.results93, go_sem, ↓IntWalk.iteOmega, *]) rfl ?_; exact ⟨rfl, by (repeat (first | (with_reducible exact Below.refl _ _) | ((with_reducible refine Below.alloc ?_ ?hB _); (case hB => (first | omega | (simp; done) | (simp; omega)))) | ((with_reducible refine Below.setCell ?_ ?hB _); (case hB => (first | omega | (simp; done) | (simp; omega)))) | (with_reducible refine Below.drew ?_) | ((with_reducible refine below_ext_of ?_ ?hB); (case hB => (first | omega | (simp; done) | (simp; omega)))) | ((with_reducible refine Below.trans ?_ (Below.mono (by assumption) ?hB)); (case hB => (first | omega | (simp; done) | (simp; omega))))))⟩)
    rcases Int.lt_or_le y 0 with q13 | q13
    · have e := HR.out
      have e1 : oneF c x y z = (1, 65533, true) := by unfold oneF; rw [if_neg (by omega), if_neg (by omega), if_neg (by omega), if_neg (by omega)]
      rw [e1] at e
      subst e
      clear e1 HR
      go_wp2
      (refine bodyPost_ret (v := (.agg #[.int .i64 i, .int .i64 1, .int .i64 (65533), .bool true])) (by simp [results, Tryd.results93, go_sem, ↓IntWalk.iteOmega, *]) rfl ?_; exact ⟨rfl, by (repeat (first | (with_reducible exact Below.refl _ _) | ((with_reducible refine Below.alloc ?_ ?hB _); (case hB => (first | omega | (simp; done) | (simp; omega)))) | ((with_reducible refine Below.setCell ?_ ?hB _); (case hB => (first | omega | (simp; done) | (simp; omega)))) | (with_reducible refine Below.drew ?_) | ((with_reducible refine below_ext_of ?_ ?hB); (case hB => (first | omega | (simp; done) | (simp; omega)))) | ((with_reducible refine Below.trans ?_ (Below.mono (by assumption) ?hB)); (case hB => (first | omega | (simp; done) | (simp; omega))))))⟩)
    rcases Int.lt_or_le z 0 with q14 | q14
    · have e := HR.out
      have e1 : oneF c x y z = (1, 65533, true) := by unfold oneF; rw [if_neg (by omega), if_neg (by omega), if_neg (by omega), if_neg (by omega)]
      rw [e1] at e
      subst e
      clear e1 HR
      go_wp2
      (refine bodyPost_ret (v := (.agg #[.int .i64 i, .int .i64 1, .int .i64 (65533), .bool true])) (by simp [results, Tryd.results93, go_sem, ↓IntWalk.iteOmega, *]) rfl ?_; exact ⟨rfl, by (repeat (first | (with_reducible exact Below.refl _ _) | ((with_reducible refine Below.alloc ?_ ?hB _); (case hB => (first | omega | (simp; done) | (simp; omega)))) | ((with_reducible refine Below.setCell ?_ ?hB _); (case hB => (first | omega | (simp; done) | (simp; omega)))) | (with_reducible refine Below.drew ?_) | ((with_reducible refine below_ext_of ?_ ?hB); (case hB => (first | omega | (simp; done) | (simp; omega)))) | ((with_reducible refine Below.trans ?_ (Below.mono (by assumption) ?hB)); (case hB => (first | omega | (simp; done) | (simp; omega))))))⟩)
    rcases Int.lt_or_le ((c - 240) * 262144 + x * 4096 + y * 64 + z) 65536 with q15 | q15
    · have e := HR.out
      have e1 : oneF c x y z = (1, 65533, true) := by unfold oneF; rw [if_neg (by omega), if_neg (by omega), if_neg (by omega), if_neg (by omega)]
      rw [e1] at e
      subst e
      clear e1 HR
      go_wp2
      (refine bodyPost_ret (v := (.agg #[.int .i64 i, .int .i64 1, .int .i64 (65533), .bool true])) (by simp [results, Tryd.results93, go_sem, ↓IntWalk.iteOmega, *]) rfl ?_; exact ⟨rfl, by (repeat (first | (with_reducible exact Below.refl _ _) | ((with_reducible refine Below.alloc ?_ ?hB _); (case hB => (first | omega | (simp; done) | (simp; omega)))) | ((with_reducible refine Below.setCell ?_ ?hB _); (case hB => (first | omega | (simp; done) | (simp; omega)))) | (with_reducible refine Below.drew ?_) | ((with_reducible refine below_ext_of ?_ ?hB); (case hB => (first | omega | (simp; done) | (simp; omega)))) | ((with_reducible refine Below.trans ?_ (Below.mono (by assumption) ?hB)); (case hB => (first | omega | (simp; done) | (simp; omega))))))⟩)
    rcases Int.lt_or_le ((c - 240) * 262144 + x * 4096 + y * 64 + z) 1114112 with q16 | q16
    · have e := HR.out
      have e1 : oneF c x y z = (4, (c - 240) * 262144 + x * 4096 + y * 64 + z, false) := by unfold oneF; rw [if_neg (by omega), if_neg (by omega), if_neg (by omega), if_pos (by omega)]
      rw [e1] at e
      subst e
      clear e1 HR
      go_wp2
      (refine bodyPost_ret (v := (.agg #[.int .i64 i, .int .i64 4, .int .i64 ((c - 240) * 262144 + x * 4096 + y * 64 + z), .bool false])) (by simp [results, Tryd.results93, go_sem, ↓IntWalk.iteOmega, *]) rfl ?_; exact ⟨rfl, by (repeat (first | (with_reducible exact Below.refl _ _) | ((with_reducible refine Below.alloc ?_ ?hB _); (case hB => (first | omega | (simp; done) | (simp; omega)))) | ((with_reducible refine Below.setCell ?_ ?hB _); (case hB => (first | omega | (simp; done) | (simp; omega)))) | (with_reducible refine Below.drew ?_) | ((with_reducible refine below_ext_of ?_ ?hB); (case hB => (first | omega | (simp; done) | (simp; omega)))) | ((with_reducible refine Below.trans ?_ (Below.mono (by assumption) ?hB)); (case hB => (first | omega | (simp; done) | (simp; omega))))))⟩)
    have e := HR.out
    have e1 : oneF c x y z = (1, 65533, true) := by unfold oneF; rw [if_neg (by omega), if_neg (by omega), if_neg (by omega), if_neg (by omega)]
    rw [e1] at e
    subst e
    clear e1 HR
    go_wp2
    (refine bodyPost_ret (v := (.agg #[.int .i64 i, .int .i64 1, .int .i64 (65533), .bool true])) (by simp [results, Tryd.results93, go_sem, ↓IntWalk.iteOmega, *]) rfl ?_; exact ⟨rfl, by (repeat (first | (with_reducible exact Below.refl _ _) | ((with_reducible refine Below.alloc ?_ ?hB _); (case hB => (first | omega | (simp; done) | (simp; omega)))) | ((with_reducible refine Below.setCell ?_ ?hB _); (case hB => (first | omega | (simp; done) | (simp; omega)))) | (with_reducible refine Below.drew ?_) | ((with_reducible refine below_ext_of ?_ ?hB); (case hB => (first | omega | (simp; done) | (simp; omega)))) | ((with_reducible refine Below.trans ?_ (Below.mono (by assumption) ?hB)); (case hB => (first | omega | (simp; done) | (simp; omega))))))⟩)
  have e := HR.out
  have e1 : oneF c x y z = (1, 65533, true) := by unfold oneF; rw [if_neg (by omega), if_neg (by omega), if_neg (by omega), if_neg (by omega)]
  rw [e1] at e
  subst e
  clear e1 HR
  go_wp2
  (refine bodyPost_ret (v := (.agg #[.int .i64 i, .int .i64 1, .int .i64 (65533), .bool true])) (by simp [results, Tryd.results93, go_sem, ↓IntWalk.iteOmega, *]) rfl ?_; exact ⟨rfl, by (repeat (first | (with_reducible exact Below.refl _ _) | ((with_reducible refine Below.alloc ?_ ?hB _); (case hB => (first | omega | (simp; done) | (simp; omega)))) | ((with_reducible refine Below.setCell ?_ ?hB _); (case hB => (first | omega | (simp; done) | (simp; omega)))) | (with_reducible refine Below.drew ?_) | ((with_reducible refine below_ext_of ?_ ?hB); (case hB => (first | omega | (simp; done) | (simp; omega)))) | ((with_reducible refine Below.trans ?_ (Below.mono (by assumption) ?hB)); (case hB => (first | omega | (simp; done) | (simp; omega))))))⟩)
end Go.Proofs.YtinnaiofgbjicaaDoor
namespace Go.Proofs.YtinnaiofgbjicaaDoor
open Go.RowKit Go.Proofs.YtinnaiofgbjicaaDoorW.PrintWords
set_option linter.unusedSimpArgs false
set_option linter.unusedVariables false
set_option maxRecDepth 1000000
theorem r6_one (s : ByteArray) (i : Nat) (hi : i < s.size) (hs : s.size ≤ 1000000) (w : World) : Calls Tryd.prog 93 #[.string s, .int .i64 i] w fun e w' => e = .returned (.agg #[.int .i64 (i : Int), .int .i64 (((sg s i).2 : Nat) : Int), .int .i64 (((sg s i).1 : Nat) : Int), .bool (brk (sg s i))]) ∧ Below w.heap.size w w' := by
  have := r6_oneF s i hi hs w _ _ _ _ rfl rfl rfl rfl
  rw [oneF_sg s i hi] at this
  exact this
def cellS (s : ByteArray) (i : Nat) : List Value := [.int .i64 (i : Nat), .int .i64 (((sg s i).2 : Nat) : Int), .int .i64 (((sg s i).1 : Nat) : Int), .bool (brk (sg s i))]
def flatS (s : ByteArray) (l : List Nat) : List Value := l.flatMap (cellS s)
def atN (l : List Nat) (i : Nat) : Nat := l.getD i 0
theorem atN_get {l : List Nat} {i : Nat} (h : i < l.length) : atN l i = l[i] := by unfold atN; rw [List.getD_eq_getElem?_getD, List.getElem?_eq_getElem h]; rfl
theorem flatS_get (s : ByteArray) (l : List Nat) (i j : Nat) (hi : i < l.length) (hj : j < 4) : (flatS s l)[i * 4 + j]? = (cellS s (atN l i))[j]? := by
  rw [atN_get hi]
  induction l generalizing i with
  | nil => simp at hi
  | cons h l ih =>
    have hl : (cellS s h).length = 4 := rfl
    show (cellS s h ++ flatS s l)[i * 4 + j]? = _
    cases i with
    | zero => simp only [Nat.zero_mul, Nat.zero_add, List.getElem_cons_zero]; rw [List.getElem?_append_left (by omega)]
    | succ i =>
      rw [List.getElem?_append_right (by omega), show (i + 1) * 4 + j - (cellS s h).length = i * 4 + j by omega]
      exact ih i (by simpa using hi)
def SRow (w : World) (A : Option Addr) (s : ByteArray) (l : List Nat) : Prop := ∀ i, i < l.length → ∃ ad, A = some ad ∧
  w.cell? (ad.add (i * 4)) = some (.int .i64 ((atN l i : Nat) : Int)) ∧ w.cell? ⟨(ad.add (i * 4)).block, (ad.add (i * 4)).off + 1, none⟩ = some (.int .i64 (((sg s (atN l i)).2 : Nat) : Int)) ∧
  w.cell? ⟨(ad.add (i * 4)).block, (ad.add (i * 4)).off + 2, none⟩ = some (.int .i64 (((sg s (atN l i)).1 : Nat) : Int)) ∧ w.cell? ⟨(ad.add (i * 4)).block, (ad.add (i * 4)).off + 3, none⟩ = some (.bool (brk (sg s (atN l i))))
theorem SRow.below {w w1 : World} {A : Option Addr} {s : ByteArray} {l : List Nat} (h : SRow w A s l) (hb : Below w.heap.size w w1) : SRow w1 A s l := by
  intro i hi
  obtain ⟨ad, rfl, h0, h1, h2, h3⟩ := h i hi
  exact ⟨ad, rfl, pw_cell_below hb h0, pw_cell_below hb h1, pw_cell_below hb h2, pw_cell_below hb h3⟩
theorem own_srow {w : World} {base : Nat} {v : Value} {s : ByteArray} {l : List Nat} (h : w.ownsRow base 117 4 v l.length (flatS s l)) : ∃ A c, v = .slice A l.length c ∧ l.length ≤ c ∧ SRow w A s l := by
  rcases h.2 with ⟨rfl, h0⟩ | ⟨g, cap, cur, rfl, hg, hh, h1, h2, _⟩
  · obtain rfl := List.eq_nil_of_length_eq_zero h0
    exact ⟨none, 0, rfl, Nat.le_refl _, fun i hi => by simp at hi⟩
  · refine ⟨_, cap, rfl, h1, fun i hi => ⟨_, rfl, ?_, ?_, ?_, ?_⟩⟩
    · exact World.ownsRow.cells h (g := g) rfl _ _ (by have := flatS_get s l i 0 hi (by omega); rw [Nat.add_zero] at this; rw [this]; rfl)
    · rw [← add_field _ _ _ (by omega)]; exact World.ownsRow.cells h (g := g) rfl _ _ (by rw [flatS_get s l i 1 hi (by omega)]; rfl)
    · rw [← add_field _ _ _ (by omega)]; exact World.ownsRow.cells h (g := g) rfl _ _ (by rw [flatS_get s l i 2 hi (by omega)]; rfl)
    · rw [← add_field _ _ _ (by omega)]; exact World.ownsRow.cells h (g := g) rfl _ _ (by rw [flatS_get s l i 3 hi (by omega)]; rfl)
theorem info_s6 : (Tryd.prog.info? 117).map (fun i => (i.zero, i.size, i.bytes)) = some (some (.agg #[.int .i64 0, .int .i64 0, .int .i64 0, .bool false]), 4, 32) := by kernel_rfl
theorem sg_in {s : ByteArray} {j : Nat} (h : j < s.size) : j + (sg s j).2 ≤ s.size := by
  by_cases hb : brk (sg s j) = true
  · unfold brk at hb; rw [decide_eq_true_iff] at hb; omega
  · exact (sg_enc h (by simpa using hb)).1
theorem posF_len (s : ByteArray) : ∀ (f i : Nat), (posF f s i).length ≤ s.size - i
  | 0, i => by simp [posF]
  | f + 1, i => by
    have hp := sg_pos s i
    have := posF_len s f (i + (sg s i).2)
    simp only [posF]
    split
    · rw [List.length_cons]; omega
    · simp
theorem poss_len (s : ByteArray) : (poss s).length ≤ s.size := by have := posF_len s s.size 0; unfold poss; omega
def SgP (w : World) (s : ByteArray) (e : Ending) (w' : World) : Prop := ∃ A c, e = .returned (.slice A (poss s).length c) ∧ (poss s).length ≤ c ∧ SRow w' A s (poss s) ∧ Below w.heap.size w w'
set_option maxHeartbeats 4000000 in
theorem r6_Signs (s : ByteArray) (hs : s.size ≤ 1000000) (w : World) : Calls Tryd.prog 63 #[.string s] w (SgP w s) := by
  go_enter Tryd.func63, Tryd.ntmps63
  go_wp2
  go_loopw [3, 4] (fun v u wr => ∃ (l : List Nat) (j : Nat), j ≤ s.size ∧ poss s = l ++ tlS s j ∧ u = .int .i64 j ∧ wr.ownsRow w.heap.size 117 4 v l.length (flatS s l) ∧ Below w.heap.size w wr) (fun _ u _ => s.size - (intOf u).toNat)
  case atStart => exact ⟨[], 0, Nat.zero_le _, rfl, rfl, own_nil _ _ _ _, Below.refl _ _⟩
  case round =>
    obtain ⟨l, j, hj, hp, rfl, hown, hbr⟩ := hrel
    have hll : l.length ≤ s.size := by have := poss_len s; rw [hp, List.length_append] at this; omega
    have hzr := hbr.size
    by_cases hlt : j < s.size
    · have c1 := fun w => r6_one s j hlt hs w
      have hin := sg_in hlt
      have hpo := sg_pos s j
      have HT := Lib.hid (tlS_cons hlt)
      have HS := Lib.hid (show flatS s (l ++ [j]) = flatS s l ++ [.int .i64 (j : Nat), .int .i64 (((sg s j).2 : Nat) : Int), .int .i64 (((sg s j).1 : Nat) : Int), .bool (brk (sg s j))] from by simp [flatS, cellS])
      have HP := Lib.hid hp
      clear hp
      generalize brk (sg s j) = b at *
      generalize (sg s j).1 = r at *
      generalize (sg s j).2 = n at *
      generalize flatS s l = fl at *
      go_wp2_with (first | (go_at_call 93; (with_reducible refine (c1 _).mono ?_); rintro en w1 ⟨rfl, hb1⟩; obtain ⟨hc1, hf1⟩ := bcell hb1; have hz1 := hb1.size; (try simp only [World.size_alloc, World.size_setCell, World.size_drew] at hz1)) | (at_builtin; refine print_append_cells (w0 := w) w.heap.size rfl _ _ 114 117 _ 4 32 rfl (Tryd.underlying114) info_s6 rfl (by decide) (by decide) _ _ _ [.int .i64 (j : Int), .int .i64 (n : Int), .int .i64 (r : Int), .bool b] rfl ?_ rfl ?_ (pw_own_below hown ?_) ?_ ?_ ?_ ?_; (focus (go_simp; done)); (focus (simp [Value.oneCell']; done)); (focus ((repeat (first | (with_reducible exact Below.refl _ _) | ((with_reducible refine Below.alloc ?_ ?hB _); (case hB => (first | omega | (simp; done) | (simp; omega)))) | ((with_reducible refine Below.setCell ?_ ?hB _); (case hB => (first | omega | (simp; done) | (simp; omega)))) | (with_reducible refine Below.drew ?_) | ((with_reducible refine below_ext_of ?_ ?hB); (case hB => (first | omega | (simp; done) | (simp; omega)))) | ((with_reducible refine Below.trans ?_ (Below.mono (by assumption) ?hB)); (case hB => (first | omega | (simp; done) | (simp; omega)))))); done)); (focus ((repeat (first | (with_reducible exact Below.refl _ _) | ((with_reducible refine Below.alloc ?_ ?hB _); (case hB => (first | omega | (simp; done) | (simp; omega)))) | ((with_reducible refine Below.setCell ?_ ?hB _); (case hB => (first | omega | (simp; done) | (simp; omega)))) | (with_reducible refine Below.drew ?_) | ((with_reducible refine below_ext_of ?_ ?hB); (case hB => (first | omega | (simp; done) | (simp; omega)))) | ((with_reducible refine Below.trans ?_ (Below.mono (by assumption) ?hB)); (case hB => (first | omega | (simp; done) | (simp; omega)))))); done)); (focus ((first | omega | (simp; done) | (simp; omega)); done)); (focus omega); intro v2 w2 hown2 hb2 hg2 _; have hz2 := hb2.size; have hq2 : w2.cell? ⟨w1.heap.size, 1, none⟩ = some (.int .i64 (n : Int)) := (hg2.cell (by go_simp) (fun h => by have h2 := (World.ownsRow.lt hown _ h.symm).2; simp only at h2; omega))))
      go_roundw
      case rel => exact ⟨l ++ [j], j + n, hin, by rw [HP.out, HT.out]; simp, by rw [Int.natCast_add], by rw [List.length_append, HS.out]; exact hown2, hb2⟩
      case measure => (simp [intOf]; omega)
    · have HP := Lib.hid hp
      have HE := Lib.hid (tlS_end hlt)
      have HO := Lib.hid hown
      clear hp hown
      go_wp2
      go_ret
      have hl : poss s = l := by rw [HP.out, HE.out, List.append_nil]
      obtain ⟨A, c, rfl, hc, hr⟩ := own_srow HO.out
      exact ⟨A, c, by rw [hl]; rfl, by rw [hl]; exact hc, by rw [hl]; exact hr, hbr⟩
theorem mayT_bad {s : ByteArray} {j : Nat} (h : j < (poss s).length) (hb : badAt s (atN (poss s) j) = true) : mayT s = false := by
  unfold mayT
  rw [decide_eq_false_iff_not]
  rintro ⟨_, h2⟩
  rw [atN_get h] at hb
  rw [h2 _ (List.getElem_mem h)] at hb
  cases hb
theorem mayT_end {s : ByteArray} (hb : ∀ i, i < (poss s).length → badAt s (atN (poss s) i) = false) : mayT s = decide ((poss s).length ≤ 64) := by
  unfold mayT
  rw [Bool.eq_iff_iff, decide_eq_true_iff, decide_eq_true_iff]
  refine ⟨fun h => h.1, fun h => ⟨h, fun x hx => ?_⟩⟩
  obtain ⟨i, hi, rfl⟩ := List.getElem_of_mem hx
  have := hb i hi
  rw [atN_get hi] at this
  exact this
set_option maxHeartbeats 4000000 in
theorem r6_May (s : ByteArray) (hs : s.size ≤ 1000000) (w : World) : Calls Tryd.prog 84 #[.string s] w fun e w' => e = .returned (.bool (mayT s)) ∧ Below w.heap.size w w' := by
  have cS := fun w => r6_Signs s hs w
  unfold SgP at cS
  have hpl := poss_len s
  have HB := Lib.hid (fun j => @mayT_bad s j)
  have HE := Lib.hid (@mayT_end s)
  have hba : ∀ i, badAt s i = (oddN (sg s i).1 || brk (sg s i)) := fun i => rfl
  have HBA := Lib.hid hba
  clear hba
  generalize poss s = P at *
  generalize hV : mayT s = V at *
  replace hV := Lib.hid hV
  go_enter Tryd.func84, Tryd.ntmps84
  go_wp2_with (first | (go_at_call 63; (with_reducible refine (cS _).mono ?_); rintro en w1 ⟨A, c, rfl, hlc, hr, hb1⟩; replace hr := Lib.hid hr; have hz1 := hb1.size))
  go_loopw [4] (fun u wr => ∃ j : Nat, j ≤ P.length ∧ u = .int .i64 j ∧ (∀ i, i < j → badAt s (atN P i) = false) ∧ Below w1.heap.size w1 wr) (fun u _ => P.length - (intOf u).toNat)
  case atStart => exact ⟨0, Nat.zero_le _, rfl, fun i hi => by omega, Below.refl _ _⟩
  case round =>
    obtain ⟨j, hj, rfl, hbs, hbr⟩ := hrel
    have HBS := Lib.hid hbs
    clear hbs
    have hzr := hbr.size
    by_cases hlt : j < P.length
    · obtain ⟨ad, rfl, _, _, h2, h3⟩ := (hr.out.below hbr) j hlt
      have cO := fun w => r6_odd (sg s (atN P j)).1 w
      cases ho : oddN (sg s (atN P j)).1
      · rw [ho] at cO
        cases hk : brk (sg s (atN P j))
        · have hb0 : badAt s (atN P j) = false := by rw [HBA.out, ho, hk]; rfl
          rw [hk] at h3
          clear ho hk
          go_wp2_with (first | (go_at_call 64; (with_reducible refine (cO _).mono ?_); rintro en w3 ⟨rfl, hb3⟩; have h3' := pw_cell_below hb3 h3; have hz3 := hb3.size))
          go_roundw
          case rel =>
            refine ⟨j + 1, by omega, by go_num, fun i hi => ?_, by (repeat (first | (with_reducible exact Below.refl _ _) | ((with_reducible refine Below.alloc ?_ ?hB _); (case hB => (first | omega | (simp; done) | (simp; omega)))) | ((with_reducible refine Below.setCell ?_ ?hB _); (case hB => (first | omega | (simp; done) | (simp; omega)))) | (with_reducible refine Below.drew ?_) | ((with_reducible refine below_ext_of ?_ ?hB); (case hB => (first | omega | (simp; done) | (simp; omega)))) | ((with_reducible refine Below.trans ?_ (Below.mono (by assumption) ?hB)); (case hB => (first | omega | (simp; done) | (simp; omega))))))⟩
            by_cases h : i = j
            · rw [h]; exact hb0
            · exact HBS.out i (by omega)
          case measure => (simp [intOf]; omega)
        · have hv := HB.out j hlt (by rw [HBA.out, ho, hk]; rfl)
          rw [hk] at h3
          clear ho hk
          go_wp2_with (first | (go_at_call 64; (with_reducible refine (cO _).mono ?_); rintro en w3 ⟨rfl, hb3⟩; have h3' := pw_cell_below hb3 h3; have hz3 := hb3.size))
          (go_ret; refine ⟨?_, by (repeat (first | (with_reducible exact Below.refl _ _) | ((with_reducible refine Below.alloc ?_ ?hB _); (case hB => (first | omega | (simp; done) | (simp; omega)))) | ((with_reducible refine Below.setCell ?_ ?hB _); (case hB => (first | omega | (simp; done) | (simp; omega)))) | (with_reducible refine Below.drew ?_) | ((with_reducible refine below_ext_of ?_ ?hB); (case hB => (first | omega | (simp; done) | (simp; omega)))) | ((with_reducible refine Below.trans ?_ (Below.mono (by assumption) ?hB)); (case hB => (first | omega | (simp; done) | (simp; omega))))))⟩)
          rw [hv]; rfl
      · rw [ho] at cO
        have hv := HB.out j hlt (by rw [HBA.out, ho]; rfl)
        clear ho
        go_wp2_with (first | (go_at_call 64; (with_reducible refine (cO _).mono ?_); rintro en w3 ⟨rfl, hb3⟩; have h3' := pw_cell_below hb3 h3; have hz3 := hb3.size))
        (go_ret; refine ⟨?_, by (repeat (first | (with_reducible exact Below.refl _ _) | ((with_reducible refine Below.alloc ?_ ?hB _); (case hB => (first | omega | (simp; done) | (simp; omega)))) | ((with_reducible refine Below.setCell ?_ ?hB _); (case hB => (first | omega | (simp; done) | (simp; omega)))) | (with_reducible refine Below.drew ?_) | ((with_reducible refine below_ext_of ?_ ?hB); (case hB => (first | omega | (simp; done) | (simp; omega)))) | ((with_reducible refine Below.trans ?_ (Below.mono (by assumption) ?hB)); (case hB => (first | omega | (simp; done) | (simp; omega))))))⟩)
        rw [hv]; rfl
    · obtain rfl : j = P.length := by omega
      have hv := HE.out HBS.out
      go_wp2
      (go_ret; refine ⟨?_, by (repeat (first | (with_reducible exact Below.refl _ _) | ((with_reducible refine Below.alloc ?_ ?hB _); (case hB => (first | omega | (simp; done) | (simp; omega)))) | ((with_reducible refine Below.setCell ?_ ?hB _); (case hB => (first | omega | (simp; done) | (simp; omega)))) | (with_reducible refine Below.drew ?_) | ((with_reducible refine below_ext_of ?_ ?hB); (case hB => (first | omega | (simp; done) | (simp; omega)))) | ((with_reducible refine Below.trans ?_ (Below.mono (by assumption) ?hB)); (case hB => (first | omega | (simp; done) | (simp; omega))))))⟩)
      rw [hv]
      exact congrArg (fun b => Ending.returned (.bool b)) (by rw [Bool.eq_iff_iff, decide_eq_true_iff, decide_eq_true_iff]; omega)
end Go.Proofs.YtinnaiofgbjicaaDoor
