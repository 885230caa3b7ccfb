/- The document's lists of keys: new ones, and without a key, walked. -/
import Derived.Test.YteldbnelfeiifaaStkB
namespace Go.Proofs.Yteldbnelfeiifaa
open Go.RowKit Go.Proofs.YteldbnelfeiifaaW.PrintWords
set_option linter.unusedSimpArgs false
set_option linter.unusedVariables false
set_option maxRecDepth 1000000
attribute [local go_sem high] eqK eqKS
theorem addL_in {l : List K2} {k : K2} (h : k ∈ l) : addL l k = l := by unfold addL; rw [if_pos h]
theorem ref_New (A : Option Addr) (l : List K2) (c : Nat) (w : World) (hl : l.length ≤ 100000) (hr : KR w A l c) : Calls Try.prog 30 #[.slice A l.length c] w (RowP w 56 (newL l)) := by
  go_enter Try.func30, Try.ntmps30
  have hrow := hr.row
  clear hr
  go_wp2
  go_loopw [3, 4, 5] (fun v i b wr => ∃ j : Nat, j ≤ l.length ∧ i = .int .i64 j ∧ Below w.heap.size w wr ∧ OwnK wr w.heap.size 56 v (newL (l.take j))) (fun _ i _ _ => l.length - (intOf i).toNat)
  case atStart => exact ⟨0, by omega, rfl, Below.refl _ _, OwnK.nil _ _ _⟩
  case round =>
    obtain ⟨j, hj, rfl, hbr, hown⟩ := hrel
    have hzr := hbr.size
    by_cases hlt : j < l.length
    · obtain ⟨ad, rfl, f0, f1⟩ := hrow j hlt
      have g0 := pw_cell_below hbr f0; have g1 := pw_cell_below hbr f1
      have HT := Lib.hid (newL_take l j hlt)
      obtain ⟨m, hm⟩ : ∃ m, newL (l.take j) = m := ⟨_, rfl⟩
      have hml : m.length ≤ 100000 := by rw [← hm]; have := newL_len (l.take j); simp at this; omega
      rw [hm] at HT hown
      clear f0 f1 hrow hm
      generalize atK l j = x at *
      obtain ⟨B, d, rfl, hkr⟩ := hown.kr
      have HO := Lib.hid hown
      clear hown
      go_wp2_with (first | (go_at_call 58; (with_reducible refine (ref_Add _ _ _ _ _ hml (hkr.below ?_)).mono ?_); (focus ((repeat (first | (with_reducible exact Below.refl _ _) | ((with_reducible refine Below.alloc ?_ ?hB _); (case hB => (first | omega | (simp; done) | (simp; omega)))) | ((with_reducible refine Below.setCell ?_ ?hB _); (case hB => (first | omega | (simp; done) | (simp; omega)))) | (with_reducible refine Below.drew ?_) | ((with_reducible refine below_ext_of ?_ ?hB); (case hB => (first | omega | (simp; done) | (simp; omega)))) | ((with_reducible refine Below.trans ?_ (Below.mono (by assumption) ?hB)); (case hB => (first | omega | (simp; done) | (simp; omega)))))); done)); rintro e w2 ⟨v2, rfl, hv2, hb2⟩; have hz2 := hb2.size))
      go_roundw
      case rel =>
        refine ⟨j + 1, by omega, by go_num, by (repeat (first | (with_reducible exact Below.refl _ _) | ((with_reducible refine Below.alloc ?_ ?hB _); (case hB => (first | omega | (simp; done) | (simp; omega)))) | ((with_reducible refine Below.setCell ?_ ?hB _); (case hB => (first | omega | (simp; done) | (simp; omega)))) | (with_reducible refine Below.drew ?_) | ((with_reducible refine below_ext_of ?_ ?hB); (case hB => (first | omega | (simp; done) | (simp; omega)))) | ((with_reducible refine Below.trans ?_ (Below.mono (by assumption) ?hB)); (case hB => (first | omega | (simp; done) | (simp; omega)))))), ?_⟩
        rw [HT.out]
        split at hv2
        · subst hv2; rw [addL_in ‹_›]; exact HO.out.below hb2
        · exact hv2.mono hzr
      case measure => simp [intOf]; omega
    · obtain rfl : j = l.length := by omega
      rw [List.take_length] at hown
      clear hrow
      go_wp2
      go_ret
      exact ⟨_, rfl, hown, hbr⟩
def dropL (l : List K2) (k : K2) : List K2 := l.filter (fun x => decide (x ≠ k))
theorem dropL_take (l : List K2) (k : K2) (j : Nat) (h : j < l.length) : dropL (l.take (j + 1)) k = if atK l j = k then dropL (l.take j) k else dropL (l.take j) k ++ [atK l j] := by
  unfold dropL; rw [takeK l j h, List.filter_append]
  split <;> simp [*]
theorem dropL_len (l : List K2) (k : K2) : (dropL l k).length ≤ l.length := List.length_filter_le _ _
theorem dropL_lt (l : List K2) (k : K2) : (dropL l k).length < l.length ↔ k ∈ l := by
  unfold dropL
  rw [List.length_filter_lt_length_iff_exists]
  simp
def DropP (w : World) (l : List K2) (k : K2) (e : Ending) (w' : World) : Prop := ∃ v', e = .returned (.tuple #[v', .bool (decide (k ∈ l))]) ∧ OwnK w' w.heap.size 56 v' (dropL l k) ∧ Below w.heap.size w w'
set_option maxHeartbeats 1000000 in
theorem ref_Drop (A : Option Addr) (l : List K2) (c : Nat) (k : K2) (w : World) (hl : l.length ≤ 100000) (hr : KR w A l c) : Calls Try.prog 42 #[.slice A l.length c, (.agg #[.int .i64 (k).c, .int .i64 (k).i])] w (DropP w l k) := by
  go_enter Try.func42, Try.ntmps42
  have hrow := hr.row
  clear hr
  go_wp2
  go_loopw [6, 7] (fun v i wr => ∃ j : Nat, j ≤ l.length ∧ i = .int .i64 j ∧ Below (w.alloc (.cells #[.int .i64 k.c, .int .i64 k.i] 56)).heap.size (w.alloc (.cells #[.int .i64 k.c, .int .i64 k.i] 56)) wr ∧ OwnK wr (w.heap.size + 1) 56 v (dropL (l.take j) k)) (fun _ i _ => l.length - (intOf i).toNat)
  case atStart => exact ⟨0, by omega, rfl, Below.refl _ _, OwnK.nil _ _ _⟩
  case round =>
    obtain ⟨j, hj, rfl, hbr, hown⟩ := hrel
    have hzr := hbr.size
    simp only [World.size_alloc] at hzr
    obtain ⟨hcr, hfr⟩ := bcell hbr
    have hbw := Lib.hid (show Below w.heap.size w wr from ((Below.refl _ _).alloc (Nat.le_refl _) _).trans (hbr.mono (by simp)))
    by_cases hlt : j < l.length
    · obtain ⟨ad, rfl, f0, f1⟩ := hrow j hlt
      have g0 := pw_cell_below hbw.out f0; have g1 := pw_cell_below hbw.out f1
      have gx0 := fun x => pw_cell_below (below_ext wr x) g0
      have gx1 := fun x => pw_cell_below (below_ext wr x) g1
      have HT := Lib.hid (dropL_take l k j hlt)
      obtain ⟨m, hm⟩ : ∃ m, dropL (l.take j) k = m := ⟨_, rfl⟩
      have hml : m.length ≤ 100000 := by rw [← hm]; have := dropL_len (l.take j) k; simp at this; omega
      rw [hm] at HT hown
      clear f0 f1 hrow hm
      by_cases he : atK l j = k
      · rw [he] at g0 g1 gx0 gx1
        have ek : kEq k.c k.i k.c k.i = true := by rw [kEq_iff]; simp
        have HE := Lib.hid he
        clear he
        go_wp2
        (refine wp_region_ext_lit (by kernel_rfl) (by kernel_rfl) ?_; (repeat (go_big_quiet_step ((fail)))); refine wpQuiet_nil ?_; intro w2 hb_w2; obtain ⟨hc_w2, hf_w2⟩ := bcell hb_w2; have hz_w2 := hb_w2.size; (try simp only [World.size_alloc, World.size_setCell, World.size_drew] at hz_w2))
        go_wp2
        go_roundw
        case rel => exact ⟨j + 1, by omega, by go_num, by (repeat (first | (with_reducible exact Below.refl _ _) | ((with_reducible refine Below.alloc ?_ ?hB _); (case hB => (first | omega | (simp; done) | (simp; omega)))) | ((with_reducible refine Below.setCell ?_ ?hB _); (case hB => (first | omega | (simp; done) | (simp; omega)))) | (with_reducible refine Below.drew ?_) | ((with_reducible refine below_ext_of ?_ ?hB); (case hB => (first | omega | (simp; done) | (simp; omega)))) | ((with_reducible refine Below.trans ?_ (Below.mono (by assumption) ?hB)); (case hB => (first | omega | (simp; done) | (simp; omega)))))), by rw [HT.out, if_pos HE.out]; exact hown.below hb_w2⟩
        case measure => simp [intOf]; omega
      · have ek : kEq (atK l j).c (atK l j).i k.c k.i = false := by rw [kEq_iff]; simp [he]
        have HE := Lib.hid he
        clear he
        generalize atK l j = x at *
        go_wp2
        (refine wp_region_ext_lit (by kernel_rfl) (by kernel_rfl) ?_; (repeat (go_big_quiet_step ((fail)))); refine wpQuiet_nil ?_; intro w2 hb_w2; obtain ⟨hc_w2, hf_w2⟩ := bcell hb_w2; have hz_w2 := hb_w2.size; (try simp only [World.size_alloc, World.size_setCell, World.size_drew] at hz_w2))
        have g0 := pw_cell_below hb_w2 g0
        have g1 := pw_cell_below hb_w2 g1
        clear hc_w2 hcr
        go_wp2_with (first | (at_builtin; refine print_append_cells (w0 := (w.alloc (.cells #[.int .i64 k.c, .int .i64 k.i] 56))) ((w.alloc (.cells #[.int .i64 k.c, .int .i64 k.i] 56)).heap.size) rfl _ _ 54 56 _ 2 16 rfl Try.underlying54 info_k rfl (by decide) (by decide) _ _ _ [.int .i64 (x).c, .int .i64 (x).i] rfl ?_ rfl ?_ (OwnK.below (show OwnK wr (w.alloc (.cells #[.int .i64 k.c, .int .i64 k.i] 56)).heap.size 56 _ m from by rw [World.size_alloc]; exact hown) ?_) ?_ ?_ ?_ ?_; (focus (go_simp; done)); (focus (simp [Value.oneCell']; done)); (focus ((repeat (first | (with_reducible exact Below.refl _ _) | ((with_reducible refine Below.alloc ?_ ?hB _); (case hB => (first | omega | (simp; done) | (simp; omega)))) | ((with_reducible refine Below.setCell ?_ ?hB _); (case hB => (first | omega | (simp; done) | (simp; omega)))) | (with_reducible refine Below.drew ?_) | ((with_reducible refine below_ext_of ?_ ?hB); (case hB => (first | omega | (simp; done) | (simp; omega)))) | ((with_reducible refine Below.trans ?_ (Below.mono (by assumption) ?hB)); (case hB => (first | omega | (simp; done) | (simp; omega)))))); done)); (focus ((repeat (first | (with_reducible exact Below.refl _ _) | ((with_reducible refine Below.alloc ?_ ?hB _); (case hB => (first | omega | (simp; done) | (simp; omega)))) | ((with_reducible refine Below.setCell ?_ ?hB _); (case hB => (first | omega | (simp; done) | (simp; omega)))) | (with_reducible refine Below.drew ?_) | ((with_reducible refine below_ext_of ?_ ?hB); (case hB => (first | omega | (simp; done) | (simp; omega)))) | ((with_reducible refine Below.trans ?_ (Below.mono (by assumption) ?hB)); (case hB => (first | omega | (simp; done) | (simp; omega)))))); done)); (focus ((first | omega | (simp; done) | (simp; omega)); done)); (focus omega); intro v3 w3 hown3 hb3 _ _; have hz3 := hb3.size; (try simp only [World.size_alloc, World.size_setCell, World.size_drew] at hz3)))
        go_roundw
        case rel => exact ⟨j + 1, by omega, by go_num, hb3, by rw [HT.out, if_neg HE.out]; rw [World.size_alloc] at hown3; exact OwnK.snoc hown3⟩
        case measure => simp [intOf]; omega
    · obtain rfl : j = l.length := by omega
      rw [List.take_length] at hown
      have hlt2 := dropL_lt l k
      have hlen := dropL_len l k
      obtain ⟨m, hm⟩ : ∃ m, dropL l k = m := ⟨_, rfl⟩
      rw [hm] at hlt2 hlen hown
      obtain ⟨B, d, rfl, hkr⟩ := hown.kr
      have HL := Lib.hid (show decide (m.length < l.length) = decide (k ∈ l) from by
        rw [decide_eq_decide, ← hlt2])
      have HO := Lib.hid (show OwnK wr w.heap.size 56 _ m from hown.mono (by omega))
      have HM := Lib.hid hm
      have hml : m.length ≤ 100000 := by omega
      clear hrow hlt2 hown hkr hm hcr hfr
      go_wp2
      go_ret2
      unfold DropP
      rw [HM.out, ← HL.out]
      refine ⟨.slice B m.length d, ?_, HO.out, hbw.out⟩
      rfl
end Go.Proofs.Yteldbnelfeiifaa
