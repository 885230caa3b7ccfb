/- The law ColorTexts, walked: a color's digits are read as it was, and both readings are one function. -/
import Derived.Test.YtmchgchhmhhnkaaColH
import Derived.Test.YtmchgchhmhhnkaaColC
namespace Go.Proofs.Ytmchgchhmhhnkaa
open Go.RowKit
set_option linter.unusedSimpArgs false
set_option linter.unusedVariables false
set_option maxRecDepth 1000000
theorem dv_dgB (n : Nat) (h : n < 16) : dv ((dgB n).toNat : Int) = n := by
  have : ∀ n : Fin 16, dv ((dgB n.val).toNat : Int) = (n.val : Int) := by decide +kernel
  exact this ⟨n, h⟩
theorem dv_byN (c i : Nat) (hi : i < 8) : dv (byN (shS c 8) i) = nib c (7 - i) := by
  have e : ∀ a0 a1 a2 a3 a4 a5 a6 a7 : UInt8, byN ⟨([a0, a1, a2, a3, a4, a5, a6, a7]).toArray⟩ i = (([a0, a1, a2, a3, a4, a5, a6, a7] : List UInt8)[i]!).toNat := by
    intros
    match i, hi with
    | 0, _ => rfl
    | 1, _ => rfl
    | 2, _ => rfl
    | 3, _ => rfl
    | 4, _ => rfl
    | 5, _ => rfl
    | 6, _ => rfl
    | 7, _ => rfl
  rw [shS_list, e]
  match i, hi with
  | 0, _ => exact dv_dgB _ (nib_lt _ _)
  | 1, _ => exact dv_dgB _ (nib_lt _ _)
  | 2, _ => exact dv_dgB _ (nib_lt _ _)
  | 3, _ => exact dv_dgB _ (nib_lt _ _)
  | 4, _ => exact dv_dgB _ (nib_lt _ _)
  | 5, _ => exact dv_dgB _ (nib_lt _ _)
  | 6, _ => exact dv_dgB _ (nib_lt _ _)
  | 7, _ => exact dv_dgB _ (nib_lt _ _)
theorem parsP_shS (c : Nat) (hc : c < 4294967296) : parsP (shS c 8) = ((c : Int), true) := by
  rw [parsP_yes (shS_size c 8) (fun i hi => by rw [dv_byN c i hi]; omega)]
  have hv : valN (shS c 8) 8 = c := by
    simp only [valN, dv_byN c _ (by omega : (0:Nat) < 8), dv_byN c _ (by omega : (1:Nat) < 8), dv_byN c _ (by omega : (2:Nat) < 8), dv_byN c _ (by omega : (3:Nat) < 8), dv_byN c _ (by omega : (4:Nat) < 8), dv_byN c _ (by omega : (5:Nat) < 8), dv_byN c _ (by omega : (6:Nat) < 8), dv_byN c _ (by omega : (7:Nat) < 8)]
    unfold nib
    simp only [Nat.reduceSub, Nat.reducePow]
    omega
  rw [hv]
theorem parsP_bd (s : ByteArray) : 0 ≤ (parsP s).1 ∧ (parsP s).1 < 4294967296 := by
  unfold parsP
  split
  · have := valN_bd s 8 (And.right ‹_›); simp only; omega
  · simp


theorem col_Parse' (s : ByteArray) (w : World) (a : Int) (b : Bool) (hz : s.size ≤ 9223372036854775807) (h : parsP s = (a, b)) : Calls Try.prog 29 #[.string s] w fun e w' => e = .returned (.tuple #[.int .u32 a, .bool b]) ∧ Below w.heap.size w w' := by
  refine (col_Parse s w hz).mono fun e w' h' => ⟨?_, h'.2⟩
  have := h'.1; unfold ParseP at this; rw [h] at this; exact this
theorem ref_Parse' (s : ByteArray) (w : World) (a : Int) (b : Bool) (hz : s.size ≤ 9223372036854775807) (h : parsP s = (a, b)) : Calls Try.prog 30 #[.string s] w fun e w' => e = .returned (.tuple #[.int .u32 a, .bool b]) ∧ w = w' := by
  refine (ref_Parse s w hz).mono fun e w' h' => ⟨?_, h'.2⟩
  have := h'.1; unfold ParseP at this; rw [h] at this; exact this
set_option maxHeartbeats 2000000 in
theorem walk_ColorTexts (c : Int) (s : ByteArray) (w : World) (hc : 0 ≤ c ∧ c ≤ 4294967295) (hz : s.size ≤ 9223372036854775807) : Calls Try.prog 10 #[.int .u32 c, .string s] w fun e w' => e = .returned (.bool true) ∧ Below w.heap.size w w' := by
  obtain ⟨n, rfl⟩ := Int.eq_ofNat_of_zero_le hc.1
  have hn : n < 4294967296 := by omega
  obtain ⟨t, ht⟩ : ∃ t, shS n 8 = t := ⟨_, rfl⟩
  have tz : t.size ≤ 9223372036854775807 := by rw [← ht, shS_size]; omega
  have tp : parsP t = ((n : Int), true) := by rw [← ht]; exact parsP_shS n hn
  have cs := fun w => col_Show n w hn
  have rs := fun w => ref_Show n w hn
  rw [ht] at cs rs
  have cp := fun w => col_Parse' t w _ _ tz tp
  clear tp ht
  by_cases hs : s.size ≤ 12
  · obtain ⟨⟨a, b⟩, hab⟩ : ∃ p, parsP s = p := ⟨_, rfl⟩
    have cq := fun w => col_Parse' s w _ _ hz hab
    have rq := fun w => ref_Parse' s w _ _ hz hab
    clear hab
    go_enter Try.func10, Try.ntmps10
    go_wp2_with (first | (go_at_call 28; (with_reducible refine (cs _).mono ?_); rintro e w1 ⟨rfl, hb1⟩; obtain ⟨hc1, hf1⟩ := bcell hb1; have hz1 := hb1.size; (try simp only [World.size_alloc, World.size_setCell, World.size_drew] at hz1)) | (go_at_call 31; (with_reducible refine (rs _).mono ?_); rintro e w1 ⟨rfl, rfl⟩) | (go_at_call 29; (with_reducible refine (cp _).mono ?_); rintro e w1 ⟨rfl, hb1⟩; obtain ⟨hc1, hf1⟩ := bcell hb1; have hz1 := hb1.size; (try simp only [World.size_alloc, World.size_setCell, World.size_drew] at hz1)) | (go_at_call 29; (with_reducible refine (cq _).mono ?_); rintro e w1 ⟨rfl, hb1⟩; obtain ⟨hc1, hf1⟩ := bcell hb1; have hz1 := hb1.size; (try simp only [World.size_alloc, World.size_setCell, World.size_drew] at hz1)) | (go_at_call 30; (with_reducible refine (rq _).mono ?_); rintro e w1 ⟨rfl, rfl⟩) | (go_at_call 13; (with_reducible refine (lives_true _).mono ?_); rintro e w1 ⟨rfl, hb1⟩; obtain ⟨hc1, hf1⟩ := bcell hb1; have hz1 := hb1.size; (try simp only [World.size_alloc, World.size_setCell, World.size_drew] at hz1)))
    (go_ret; refine ⟨?_, by (repeat (first | (with_reducible exact Below.refl _ _) | ((with_reducible refine Below.alloc ?_ ?hB _); (case hB => (first | omega | (simp; done) | (simp; omega)))) | ((with_reducible refine Below.setCell ?_ ?hB _); (case hB => (first | omega | (simp; done) | (simp; omega)))) | (with_reducible refine Below.drew ?_) | ((with_reducible refine below_ext_of ?_ ?hB); (case hB => (first | omega | (simp; done) | (simp; omega)))) | ((with_reducible refine Below.trans ?_ (Below.mono (by assumption) ?hB)); (case hB => (first | omega | (simp; done) | (simp; omega))))))⟩); rfl
  · obtain ⟨u, hu⟩ : ∃ u, s.extract 0 12 = u := ⟨_, rfl⟩
    have uz : u.size ≤ 9223372036854775807 := by rw [← hu]; simp; omega
    obtain ⟨⟨a, b⟩, hab⟩ : ∃ p, parsP u = p := ⟨_, rfl⟩
    have cq := fun w => col_Parse' u w _ _ uz hab
    have rq := fun w => ref_Parse' u w _ _ uz hab
    clear hab
    go_enter Try.func10, Try.ntmps10
    go_wp2_with (first | (go_at_call 28; (with_reducible refine (cs _).mono ?_); rintro e w1 ⟨rfl, hb1⟩; obtain ⟨hc1, hf1⟩ := bcell hb1; have hz1 := hb1.size; (try simp only [World.size_alloc, World.size_setCell, World.size_drew] at hz1)) | (go_at_call 31; (with_reducible refine (rs _).mono ?_); rintro e w1 ⟨rfl, rfl⟩) | (go_at_call 29; (with_reducible refine (cp _).mono ?_); rintro e w1 ⟨rfl, hb1⟩; obtain ⟨hc1, hf1⟩ := bcell hb1; have hz1 := hb1.size; (try simp only [World.size_alloc, World.size_setCell, World.size_drew] at hz1)) | (go_at_call 29; (with_reducible refine (cq _).mono ?_); rintro e w1 ⟨rfl, hb1⟩; obtain ⟨hc1, hf1⟩ := bcell hb1; have hz1 := hb1.size; (try simp only [World.size_alloc, World.size_setCell, World.size_drew] at hz1)) | (go_at_call 30; (with_reducible refine (rq _).mono ?_); rintro e w1 ⟨rfl, rfl⟩) | (go_at_call 13; (with_reducible refine (lives_true _).mono ?_); rintro e w1 ⟨rfl, hb1⟩; obtain ⟨hc1, hf1⟩ := bcell hb1; have hz1 := hb1.size; (try simp only [World.size_alloc, World.size_setCell, World.size_drew] at hz1)))
    (go_ret; refine ⟨?_, by (repeat (first | (with_reducible exact Below.refl _ _) | ((with_reducible refine Below.alloc ?_ ?hB _); (case hB => (first | omega | (simp; done) | (simp; omega)))) | ((with_reducible refine Below.setCell ?_ ?hB _); (case hB => (first | omega | (simp; done) | (simp; omega)))) | (with_reducible refine Below.drew ?_) | ((with_reducible refine below_ext_of ?_ ?hB); (case hB => (first | omega | (simp; done) | (simp; omega)))) | ((with_reducible refine Below.trans ?_ (Below.mono (by assumption) ?hB)); (case hB => (first | omega | (simp; done) | (simp; omega))))))⟩); rfl
end Go.Proofs.Ytmchgchhmhhnkaa
