/- Which events the document lets be, walked. -/
import Derived.Test.YtinnaiofgbjicaaEvI
namespace Go.Proofs.Ytinnaiofgbjicaa
open Go.RowKit Go.Proofs.YtinnaiofgbjicaaW.PrintWords
set_option linter.unusedSimpArgs false
set_option linter.unusedVariables false
set_option maxRecDepth 1000000
def mayT (e : E4) : Prop := (0 ≤ e.k ∧ e.k ≤ 5) ∧ (0 ≤ e.id ∧ e.id ≤ 4294967295) ∧ ((e.k = 0 ∨ e.k = 3) → (0 ≤ e.a ∧ e.a ≤ 4294967295) ∧ (0 ≤ e.b ∧ e.b ≤ 4294967295)) ∧ (e.k = 1 → (0 ≤ e.a ∧ e.a ≤ 4294967295) ∧ e.b = 0) ∧ ((e.k = 2 ∨ e.k = 5) → e.a = 0 ∧ e.b = 0) ∧
  (e.k = 4 → (-2147483648 ≤ e.a ∧ e.a ≤ 2147483647) ∧ (-2147483648 ≤ e.b ∧ e.b ≤ 2147483647)) ∧ (e.k ≤ 1 → 1 ≤ e.a ∧ e.a ≤ 12 ∧ e.b ≤ 255)
theorem packFrom_all {f : ByteArray} {l : List V8} : ∀ (k : Nat) (b : List Int), packFrom f l k = some b → ∀ i, i < k → putOk (byN f i) (at8 l i) = true
  | 0, b, _, i, hi => by omega
  | k + 1, b, h, i, hi => by
    unfold packFrom at h
    split at h
    · cases h
    · rename_i b1 h1
      split at h
      · rename_i h2
        by_cases e : i = k
        · subst e; exact h2
        · exact packFrom_all k b1 h1 i (by omega)
      · cases h
theorem pack_all {f : ByteArray} {l : List V8} {b : List Int} (h : packP f l = (0, b)) : ∀ i, i < f.size → putOk (byN f i) (at8 l i) = true := by
  unfold packP at h
  split at h
  · rename_i hf
    split at h
    · injection h with h; omega
    · rename_i b1 h1; intro i hi; exact packFrom_all _ _ h1 i (by omega)
  · injection h with h; omega
theorem putOk_n {c : Int} {n : Int} (h : putOk c (vI n) = true) : (c = 105 ∧ -2147483648 ≤ n ∧ n ≤ 2147483647) ∨ (c = 117 ∧ 0 ≤ n ∧ n ≤ 4294967295) := by
  unfold putOk at h
  rcases of_decide_eq_true h with ⟨_, h⟩ | ⟨h, _⟩ | ⟨h, _⟩ | ⟨h, _⟩
  · have h := of_decide_eq_true h
    simp only [vI] at h
    omega
  · exact absurd h (by show ¬ (0 : Int) = 1; omega)
  · exact absurd h (by show ¬ (0 : Int) = 2; omega)
  · exact absurd h (by show ¬ (0 : Int) = 3; omega)
theorem mayE_iff (e : E4) : mayE e = true ↔ mayT e := by
  constructor
  · intro h
    obtain ⟨h1, h2, hp, hm, hb, ha, h3⟩ := of_decide_eq_true h
    have hid := mayM_yes hm
    have hall := pack_all hp
    obtain ⟨k, id, a, b⟩ := e
    simp only at *
    unfold mayT
    simp only
    rcases (show k = 0 ∨ k = 1 ∨ k = 2 ∨ k = 3 ∨ k = 4 ∨ k = 5 by omega) with rfl | rfl | rfl | rfl | rfl | rfl
    · have p0 := putOk_n (n := a) (c := 117) (hall 0 (by decide +kernel))
      have p1 := putOk_n (n := b) (c := 117) (hall 1 (by decide +kernel))
      omega
    · have p0 := putOk_n (n := a) (c := 117) (hall 0 (by decide +kernel))
      have hb : b = 0 := hb.resolve_left (by decide +kernel)
      omega
    · have ha : a = 0 := ha.resolve_left (by decide +kernel)
      have hb : b = 0 := hb.resolve_left (by decide +kernel)
      omega
    · have p0 := putOk_n (n := a) (c := 117) (hall 0 (by decide +kernel))
      have p1 := putOk_n (n := b) (c := 117) (hall 1 (by decide +kernel))
      omega
    · have p0 := putOk_n (n := a) (c := 105) (hall 0 (by decide +kernel))
      have p1 := putOk_n (n := b) (c := 105) (hall 1 (by decide +kernel))
      omega
    · have ha : a = 0 := ha.resolve_left (by decide +kernel)
      have hb : b = 0 := hb.resolve_left (by decide +kernel)
      omega
  · intro h
    obtain ⟨h1, h2, h3, h4, h5, h6, h7⟩ := h
    refine may_mk e h1 h2 (fit_pack e h1 h3 (fun h => (h4 h).1) h6) ?_ ?_ h7
    · rcases (show e.k = 0 ∨ e.k = 1 ∨ e.k = 2 ∨ e.k = 3 ∨ e.k = 4 ∨ e.k = 5 by omega) with h | h | h | h | h | h
      · left; rw [h]; decide +kernel
      · right; exact (h4 h).2
      · right; exact (h5 (.inl h)).2
      · left; rw [h]; decide +kernel
      · left; rw [h]; decide +kernel
      · right; exact (h5 (.inr h)).2
    · rcases (show e.k = 0 ∨ e.k = 1 ∨ e.k = 2 ∨ e.k = 3 ∨ e.k = 4 ∨ e.k = 5 by omega) with h | h | h | h | h | h
      · left; rw [h]; decide +kernel
      · left; rw [h]; decide +kernel
      · right; exact (h5 (.inl h)).1
      · left; rw [h]; decide +kernel
      · left; rw [h]; decide +kernel
      · right; exact (h5 (.inr h)).1
end Go.Proofs.Ytinnaiofgbjicaa
namespace Go.Proofs.Ytinnaiofgbjicaa
open Go.RowKit Go.Proofs.YtinnaiofgbjicaaW.PrintWords
set_option linter.unusedSimpArgs false
set_option linter.unusedVariables false
set_option maxRecDepth 1000000
set_option maxHeartbeats 2000000 in
theorem ref_may0 (id a b : Int) (w : World) (hbd : (E4.mk 0 id a b).Bd) (h1 : 0 ≤ id) (h2 : id ≤ 4294967295) : Calls Try.prog 11 #[.agg #[.int .i64 0, .int .i64 id, .int .i64 a, .int .i64 b]] w fun en w' => en = .returned (.bool (mayE ⟨0, id, a, b⟩)) ∧ Below w.heap.size w w' := by
  have cf : ∀ w, Calls Try.prog 19 #[.int .i64 0] w fun e w' => e = .returned (.string { data := #[117, 117] }) ∧ Below w.heap.size w w' := fun w => ref_formE 0 w (by omega); have HT := Lib.hid (mayE_iff ⟨0, id, a, b⟩); have ha := hbd.a; have hb := hbd.b; clear hbd; simp only at ha hb; obtain ⟨a1, a2⟩ := ha; obtain ⟨b1, b2⟩ := hb
  by_cases hal : 0 ≤ a
  · skip
    by_cases hah : a ≤ 4294967295
    · skip
      by_cases hbl : 0 ≤ b
      · skip
        by_cases hbh : b ≤ 4294967295
        · skip
          by_cases ha1 : 1 ≤ a
          · skip
            by_cases ha2 : a ≤ 12
            · skip
              by_cases hb2 : b ≤ 255
              · skip
                (have HV := Lib.hid (HT.out.2 (by unfold mayT; simp only; (first | omega | (simp <;> omega)))); go_enter Try.func11, Try.ntmps11; go_wp2_with (first | (go_at_call 19; (with_reducible refine (cf _).mono ?_); rintro e w1 ⟨rfl, hb1⟩; obtain ⟨hc1, hf1⟩ := bcell hb1; have hz1 := hb1.size; (try simp only [World.size_alloc, World.size_setCell, World.size_drew] at hz1))); (try (refine wp_loop_rounds 3 ?_; iterate 3 ((try rw [rounds_succ]); (try go_wp2)))); refine bodyPost_ret (v := .bool true) (by simp [results, Try.results11, go_sem, ↓IntWalk.iteOmega, *]) rfl ?_; rw [HV.out]; exact ⟨rfl, by (repeat (first | (with_reducible exact Below.refl _ _) | ((with_reducible refine Below.alloc ?_ ?hB _); (case hB => (first | omega | (simp; done) | (simp; omega)))) | ((with_reducible refine Below.setCell ?_ ?hB _); (case hB => (first | omega | (simp; done) | (simp; omega)))) | (with_reducible refine Below.drew ?_) | ((with_reducible refine below_ext_of ?_ ?hB); (case hB => (first | omega | (simp; done) | (simp; omega)))) | ((with_reducible refine Below.trans ?_ (Below.mono (by assumption) ?hB)); (case hB => (first | omega | (simp; done) | (simp; omega))))))⟩)
              · replace hb2 : 255 < b := by omega
                (have HV := Lib.hid (Bool.eq_false_iff.2 (fun h => by have h := HT.out.1 h; unfold mayT at h; (simp at h) <;> omega)); go_enter Try.func11, Try.ntmps11; go_wp2_with (first | (go_at_call 19; (with_reducible refine (cf _).mono ?_); rintro e w1 ⟨rfl, hb1⟩; obtain ⟨hc1, hf1⟩ := bcell hb1; have hz1 := hb1.size; (try simp only [World.size_alloc, World.size_setCell, World.size_drew] at hz1))); (try (refine wp_loop_rounds 3 ?_; iterate 3 ((try rw [rounds_succ]); (try go_wp2)))); refine bodyPost_ret (v := .bool false) (by simp [results, Try.results11, go_sem, ↓IntWalk.iteOmega, *]) rfl ?_; rw [HV.out]; exact ⟨rfl, by (repeat (first | (with_reducible exact Below.refl _ _) | ((with_reducible refine Below.alloc ?_ ?hB _); (case hB => (first | omega | (simp; done) | (simp; omega)))) | ((with_reducible refine Below.setCell ?_ ?hB _); (case hB => (first | omega | (simp; done) | (simp; omega)))) | (with_reducible refine Below.drew ?_) | ((with_reducible refine below_ext_of ?_ ?hB); (case hB => (first | omega | (simp; done) | (simp; omega)))) | ((with_reducible refine Below.trans ?_ (Below.mono (by assumption) ?hB)); (case hB => (first | omega | (simp; done) | (simp; omega))))))⟩)
            · replace ha2 : 12 < a := by omega
              (have HV := Lib.hid (Bool.eq_false_iff.2 (fun h => by have h := HT.out.1 h; unfold mayT at h; (simp at h) <;> omega)); go_enter Try.func11, Try.ntmps11; go_wp2_with (first | (go_at_call 19; (with_reducible refine (cf _).mono ?_); rintro e w1 ⟨rfl, hb1⟩; obtain ⟨hc1, hf1⟩ := bcell hb1; have hz1 := hb1.size; (try simp only [World.size_alloc, World.size_setCell, World.size_drew] at hz1))); (try (refine wp_loop_rounds 3 ?_; iterate 3 ((try rw [rounds_succ]); (try go_wp2)))); refine bodyPost_ret (v := .bool false) (by simp [results, Try.results11, go_sem, ↓IntWalk.iteOmega, *]) rfl ?_; rw [HV.out]; exact ⟨rfl, by (repeat (first | (with_reducible exact Below.refl _ _) | ((with_reducible refine Below.alloc ?_ ?hB _); (case hB => (first | omega | (simp; done) | (simp; omega)))) | ((with_reducible refine Below.setCell ?_ ?hB _); (case hB => (first | omega | (simp; done) | (simp; omega)))) | (with_reducible refine Below.drew ?_) | ((with_reducible refine below_ext_of ?_ ?hB); (case hB => (first | omega | (simp; done) | (simp; omega)))) | ((with_reducible refine Below.trans ?_ (Below.mono (by assumption) ?hB)); (case hB => (first | omega | (simp; done) | (simp; omega))))))⟩)
          · replace ha1 : a < 1 := by omega
            (have HV := Lib.hid (Bool.eq_false_iff.2 (fun h => by have h := HT.out.1 h; unfold mayT at h; (simp at h) <;> omega)); go_enter Try.func11, Try.ntmps11; go_wp2_with (first | (go_at_call 19; (with_reducible refine (cf _).mono ?_); rintro e w1 ⟨rfl, hb1⟩; obtain ⟨hc1, hf1⟩ := bcell hb1; have hz1 := hb1.size; (try simp only [World.size_alloc, World.size_setCell, World.size_drew] at hz1))); (try (refine wp_loop_rounds 3 ?_; iterate 3 ((try rw [rounds_succ]); (try go_wp2)))); refine bodyPost_ret (v := .bool false) (by simp [results, Try.results11, go_sem, ↓IntWalk.iteOmega, *]) rfl ?_; rw [HV.out]; exact ⟨rfl, by (repeat (first | (with_reducible exact Below.refl _ _) | ((with_reducible refine Below.alloc ?_ ?hB _); (case hB => (first | omega | (simp; done) | (simp; omega)))) | ((with_reducible refine Below.setCell ?_ ?hB _); (case hB => (first | omega | (simp; done) | (simp; omega)))) | (with_reducible refine Below.drew ?_) | ((with_reducible refine below_ext_of ?_ ?hB); (case hB => (first | omega | (simp; done) | (simp; omega)))) | ((with_reducible refine Below.trans ?_ (Below.mono (by assumption) ?hB)); (case hB => (first | omega | (simp; done) | (simp; omega))))))⟩)
        · replace hbh : 4294967295 < b := by omega
          (have HV := Lib.hid (Bool.eq_false_iff.2 (fun h => by have h := HT.out.1 h; unfold mayT at h; (simp at h) <;> omega)); go_enter Try.func11, Try.ntmps11; go_wp2_with (first | (go_at_call 19; (with_reducible refine (cf _).mono ?_); rintro e w1 ⟨rfl, hb1⟩; obtain ⟨hc1, hf1⟩ := bcell hb1; have hz1 := hb1.size; (try simp only [World.size_alloc, World.size_setCell, World.size_drew] at hz1))); (try (refine wp_loop_rounds 3 ?_; iterate 3 ((try rw [rounds_succ]); (try go_wp2)))); refine bodyPost_ret (v := .bool false) (by simp [results, Try.results11, go_sem, ↓IntWalk.iteOmega, *]) rfl ?_; rw [HV.out]; exact ⟨rfl, by (repeat (first | (with_reducible exact Below.refl _ _) | ((with_reducible refine Below.alloc ?_ ?hB _); (case hB => (first | omega | (simp; done) | (simp; omega)))) | ((with_reducible refine Below.setCell ?_ ?hB _); (case hB => (first | omega | (simp; done) | (simp; omega)))) | (with_reducible refine Below.drew ?_) | ((with_reducible refine below_ext_of ?_ ?hB); (case hB => (first | omega | (simp; done) | (simp; omega)))) | ((with_reducible refine Below.trans ?_ (Below.mono (by assumption) ?hB)); (case hB => (first | omega | (simp; done) | (simp; omega))))))⟩)
      · replace hbl : b < 0 := by omega
        (have HV := Lib.hid (Bool.eq_false_iff.2 (fun h => by have h := HT.out.1 h; unfold mayT at h; (simp at h) <;> omega)); go_enter Try.func11, Try.ntmps11; go_wp2_with (first | (go_at_call 19; (with_reducible refine (cf _).mono ?_); rintro e w1 ⟨rfl, hb1⟩; obtain ⟨hc1, hf1⟩ := bcell hb1; have hz1 := hb1.size; (try simp only [World.size_alloc, World.size_setCell, World.size_drew] at hz1))); (try (refine wp_loop_rounds 3 ?_; iterate 3 ((try rw [rounds_succ]); (try go_wp2)))); refine bodyPost_ret (v := .bool false) (by simp [results, Try.results11, go_sem, ↓IntWalk.iteOmega, *]) rfl ?_; rw [HV.out]; exact ⟨rfl, by (repeat (first | (with_reducible exact Below.refl _ _) | ((with_reducible refine Below.alloc ?_ ?hB _); (case hB => (first | omega | (simp; done) | (simp; omega)))) | ((with_reducible refine Below.setCell ?_ ?hB _); (case hB => (first | omega | (simp; done) | (simp; omega)))) | (with_reducible refine Below.drew ?_) | ((with_reducible refine below_ext_of ?_ ?hB); (case hB => (first | omega | (simp; done) | (simp; omega)))) | ((with_reducible refine Below.trans ?_ (Below.mono (by assumption) ?hB)); (case hB => (first | omega | (simp; done) | (simp; omega))))))⟩)
    · replace hah : 4294967295 < a := by omega
      (have HV := Lib.hid (Bool.eq_false_iff.2 (fun h => by have h := HT.out.1 h; unfold mayT at h; (simp at h) <;> omega)); go_enter Try.func11, Try.ntmps11; go_wp2_with (first | (go_at_call 19; (with_reducible refine (cf _).mono ?_); rintro e w1 ⟨rfl, hb1⟩; obtain ⟨hc1, hf1⟩ := bcell hb1; have hz1 := hb1.size; (try simp only [World.size_alloc, World.size_setCell, World.size_drew] at hz1))); (try (refine wp_loop_rounds 3 ?_; iterate 3 ((try rw [rounds_succ]); (try go_wp2)))); refine bodyPost_ret (v := .bool false) (by simp [results, Try.results11, go_sem, ↓IntWalk.iteOmega, *]) rfl ?_; rw [HV.out]; exact ⟨rfl, by (repeat (first | (with_reducible exact Below.refl _ _) | ((with_reducible refine Below.alloc ?_ ?hB _); (case hB => (first | omega | (simp; done) | (simp; omega)))) | ((with_reducible refine Below.setCell ?_ ?hB _); (case hB => (first | omega | (simp; done) | (simp; omega)))) | (with_reducible refine Below.drew ?_) | ((with_reducible refine below_ext_of ?_ ?hB); (case hB => (first | omega | (simp; done) | (simp; omega)))) | ((with_reducible refine Below.trans ?_ (Below.mono (by assumption) ?hB)); (case hB => (first | omega | (simp; done) | (simp; omega))))))⟩)
  · replace hal : a < 0 := by omega
    (have HV := Lib.hid (Bool.eq_false_iff.2 (fun h => by have h := HT.out.1 h; unfold mayT at h; (simp at h) <;> omega)); go_enter Try.func11, Try.ntmps11; go_wp2_with (first | (go_at_call 19; (with_reducible refine (cf _).mono ?_); rintro e w1 ⟨rfl, hb1⟩; obtain ⟨hc1, hf1⟩ := bcell hb1; have hz1 := hb1.size; (try simp only [World.size_alloc, World.size_setCell, World.size_drew] at hz1))); (try (refine wp_loop_rounds 3 ?_; iterate 3 ((try rw [rounds_succ]); (try go_wp2)))); refine bodyPost_ret (v := .bool false) (by simp [results, Try.results11, go_sem, ↓IntWalk.iteOmega, *]) rfl ?_; rw [HV.out]; exact ⟨rfl, by (repeat (first | (with_reducible exact Below.refl _ _) | ((with_reducible refine Below.alloc ?_ ?hB _); (case hB => (first | omega | (simp; done) | (simp; omega)))) | ((with_reducible refine Below.setCell ?_ ?hB _); (case hB => (first | omega | (simp; done) | (simp; omega)))) | (with_reducible refine Below.drew ?_) | ((with_reducible refine below_ext_of ?_ ?hB); (case hB => (first | omega | (simp; done) | (simp; omega)))) | ((with_reducible refine Below.trans ?_ (Below.mono (by assumption) ?hB)); (case hB => (first | omega | (simp; done) | (simp; omega))))))⟩)
set_option maxHeartbeats 2000000 in
theorem ref_may1 (id a b : Int) (w : World) (hbd : (E4.mk 1 id a b).Bd) (h1 : 0 ≤ id) (h2 : id ≤ 4294967295) : Calls Try.prog 11 #[.agg #[.int .i64 1, .int .i64 id, .int .i64 a, .int .i64 b]] w fun en w' => en = .returned (.bool (mayE ⟨1, id, a, b⟩)) ∧ Below w.heap.size w w' := by
  have cf : ∀ w, Calls Try.prog 19 #[.int .i64 1] w fun e w' => e = .returned (.string { data := #[117] }) ∧ Below w.heap.size w w' := fun w => ref_formE 1 w (by omega); have HT := Lib.hid (mayE_iff ⟨1, id, a, b⟩); have ha := hbd.a; have hb := hbd.b; clear hbd; simp only at ha hb; obtain ⟨a1, a2⟩ := ha; obtain ⟨b1, b2⟩ := hb
  by_cases hal : 0 ≤ a
  · skip
    by_cases hah : a ≤ 4294967295
    · skip
      by_cases hb0 : b = 0
      · subst hb0
        by_cases ha1 : 1 ≤ a
        · skip
          by_cases ha2 : a ≤ 12
          · skip
            (have HV := Lib.hid (HT.out.2 (by unfold mayT; simp only; (first | omega | (simp <;> omega)))); go_enter Try.func11, Try.ntmps11; go_wp2_with (first | (go_at_call 19; (with_reducible refine (cf _).mono ?_); rintro e w1 ⟨rfl, hb1⟩; obtain ⟨hc1, hf1⟩ := bcell hb1; have hz1 := hb1.size; (try simp only [World.size_alloc, World.size_setCell, World.size_drew] at hz1))); (try (refine wp_loop_rounds 3 ?_; iterate 3 ((try rw [rounds_succ]); (try go_wp2)))); refine bodyPost_ret (v := .bool true) (by simp [results, Try.results11, go_sem, ↓IntWalk.iteOmega, *]) rfl ?_; rw [HV.out]; exact ⟨rfl, by (repeat (first | (with_reducible exact Below.refl _ _) | ((with_reducible refine Below.alloc ?_ ?hB _); (case hB => (first | omega | (simp; done) | (simp; omega)))) | ((with_reducible refine Below.setCell ?_ ?hB _); (case hB => (first | omega | (simp; done) | (simp; omega)))) | (with_reducible refine Below.drew ?_) | ((with_reducible refine below_ext_of ?_ ?hB); (case hB => (first | omega | (simp; done) | (simp; omega)))) | ((with_reducible refine Below.trans ?_ (Below.mono (by assumption) ?hB)); (case hB => (first | omega | (simp; done) | (simp; omega))))))⟩)
          · replace ha2 : 12 < a := by omega
            (have HV := Lib.hid (Bool.eq_false_iff.2 (fun h => by have h := HT.out.1 h; unfold mayT at h; (simp at h) <;> omega)); go_enter Try.func11, Try.ntmps11; go_wp2_with (first | (go_at_call 19; (with_reducible refine (cf _).mono ?_); rintro e w1 ⟨rfl, hb1⟩; obtain ⟨hc1, hf1⟩ := bcell hb1; have hz1 := hb1.size; (try simp only [World.size_alloc, World.size_setCell, World.size_drew] at hz1))); (try (refine wp_loop_rounds 3 ?_; iterate 3 ((try rw [rounds_succ]); (try go_wp2)))); refine bodyPost_ret (v := .bool false) (by simp [results, Try.results11, go_sem, ↓IntWalk.iteOmega, *]) rfl ?_; rw [HV.out]; exact ⟨rfl, by (repeat (first | (with_reducible exact Below.refl _ _) | ((with_reducible refine Below.alloc ?_ ?hB _); (case hB => (first | omega | (simp; done) | (simp; omega)))) | ((with_reducible refine Below.setCell ?_ ?hB _); (case hB => (first | omega | (simp; done) | (simp; omega)))) | (with_reducible refine Below.drew ?_) | ((with_reducible refine below_ext_of ?_ ?hB); (case hB => (first | omega | (simp; done) | (simp; omega)))) | ((with_reducible refine Below.trans ?_ (Below.mono (by assumption) ?hB)); (case hB => (first | omega | (simp; done) | (simp; omega))))))⟩)
        · replace ha1 : a < 1 := by omega
          (have HV := Lib.hid (Bool.eq_false_iff.2 (fun h => by have h := HT.out.1 h; unfold mayT at h; (simp at h) <;> omega)); go_enter Try.func11, Try.ntmps11; go_wp2_with (first | (go_at_call 19; (with_reducible refine (cf _).mono ?_); rintro e w1 ⟨rfl, hb1⟩; obtain ⟨hc1, hf1⟩ := bcell hb1; have hz1 := hb1.size; (try simp only [World.size_alloc, World.size_setCell, World.size_drew] at hz1))); (try (refine wp_loop_rounds 3 ?_; iterate 3 ((try rw [rounds_succ]); (try go_wp2)))); refine bodyPost_ret (v := .bool false) (by simp [results, Try.results11, go_sem, ↓IntWalk.iteOmega, *]) rfl ?_; rw [HV.out]; exact ⟨rfl, by (repeat (first | (with_reducible exact Below.refl _ _) | ((with_reducible refine Below.alloc ?_ ?hB _); (case hB => (first | omega | (simp; done) | (simp; omega)))) | ((with_reducible refine Below.setCell ?_ ?hB _); (case hB => (first | omega | (simp; done) | (simp; omega)))) | (with_reducible refine Below.drew ?_) | ((with_reducible refine below_ext_of ?_ ?hB); (case hB => (first | omega | (simp; done) | (simp; omega)))) | ((with_reducible refine Below.trans ?_ (Below.mono (by assumption) ?hB)); (case hB => (first | omega | (simp; done) | (simp; omega))))))⟩)
      · skip
        (have HV := Lib.hid (Bool.eq_false_iff.2 (fun h => by have h := HT.out.1 h; unfold mayT at h; (simp at h) <;> omega)); go_enter Try.func11, Try.ntmps11; go_wp2_with (first | (go_at_call 19; (with_reducible refine (cf _).mono ?_); rintro e w1 ⟨rfl, hb1⟩; obtain ⟨hc1, hf1⟩ := bcell hb1; have hz1 := hb1.size; (try simp only [World.size_alloc, World.size_setCell, World.size_drew] at hz1))); (try (refine wp_loop_rounds 3 ?_; iterate 3 ((try rw [rounds_succ]); (try go_wp2)))); refine bodyPost_ret (v := .bool false) (by simp [results, Try.results11, go_sem, ↓IntWalk.iteOmega, *]) rfl ?_; rw [HV.out]; exact ⟨rfl, by (repeat (first | (with_reducible exact Below.refl _ _) | ((with_reducible refine Below.alloc ?_ ?hB _); (case hB => (first | omega | (simp; done) | (simp; omega)))) | ((with_reducible refine Below.setCell ?_ ?hB _); (case hB => (first | omega | (simp; done) | (simp; omega)))) | (with_reducible refine Below.drew ?_) | ((with_reducible refine below_ext_of ?_ ?hB); (case hB => (first | omega | (simp; done) | (simp; omega)))) | ((with_reducible refine Below.trans ?_ (Below.mono (by assumption) ?hB)); (case hB => (first | omega | (simp; done) | (simp; omega))))))⟩)
    · replace hah : 4294967295 < a := by omega
      (have HV := Lib.hid (Bool.eq_false_iff.2 (fun h => by have h := HT.out.1 h; unfold mayT at h; (simp at h) <;> omega)); go_enter Try.func11, Try.ntmps11; go_wp2_with (first | (go_at_call 19; (with_reducible refine (cf _).mono ?_); rintro e w1 ⟨rfl, hb1⟩; obtain ⟨hc1, hf1⟩ := bcell hb1; have hz1 := hb1.size; (try simp only [World.size_alloc, World.size_setCell, World.size_drew] at hz1))); (try (refine wp_loop_rounds 3 ?_; iterate 3 ((try rw [rounds_succ]); (try go_wp2)))); refine bodyPost_ret (v := .bool false) (by simp [results, Try.results11, go_sem, ↓IntWalk.iteOmega, *]) rfl ?_; rw [HV.out]; exact ⟨rfl, by (repeat (first | (with_reducible exact Below.refl _ _) | ((with_reducible refine Below.alloc ?_ ?hB _); (case hB => (first | omega | (simp; done) | (simp; omega)))) | ((with_reducible refine Below.setCell ?_ ?hB _); (case hB => (first | omega | (simp; done) | (simp; omega)))) | (with_reducible refine Below.drew ?_) | ((with_reducible refine below_ext_of ?_ ?hB); (case hB => (first | omega | (simp; done) | (simp; omega)))) | ((with_reducible refine Below.trans ?_ (Below.mono (by assumption) ?hB)); (case hB => (first | omega | (simp; done) | (simp; omega))))))⟩)
  · replace hal : a < 0 := by omega
    (have HV := Lib.hid (Bool.eq_false_iff.2 (fun h => by have h := HT.out.1 h; unfold mayT at h; (simp at h) <;> omega)); go_enter Try.func11, Try.ntmps11; go_wp2_with (first | (go_at_call 19; (with_reducible refine (cf _).mono ?_); rintro e w1 ⟨rfl, hb1⟩; obtain ⟨hc1, hf1⟩ := bcell hb1; have hz1 := hb1.size; (try simp only [World.size_alloc, World.size_setCell, World.size_drew] at hz1))); (try (refine wp_loop_rounds 3 ?_; iterate 3 ((try rw [rounds_succ]); (try go_wp2)))); refine bodyPost_ret (v := .bool false) (by simp [results, Try.results11, go_sem, ↓IntWalk.iteOmega, *]) rfl ?_; rw [HV.out]; exact ⟨rfl, by (repeat (first | (with_reducible exact Below.refl _ _) | ((with_reducible refine Below.alloc ?_ ?hB _); (case hB => (first | omega | (simp; done) | (simp; omega)))) | ((with_reducible refine Below.setCell ?_ ?hB _); (case hB => (first | omega | (simp; done) | (simp; omega)))) | (with_reducible refine Below.drew ?_) | ((with_reducible refine below_ext_of ?_ ?hB); (case hB => (first | omega | (simp; done) | (simp; omega)))) | ((with_reducible refine Below.trans ?_ (Below.mono (by assumption) ?hB)); (case hB => (first | omega | (simp; done) | (simp; omega))))))⟩)
set_option maxHeartbeats 2000000 in
theorem ref_may2 (id a b : Int) (w : World) (hbd : (E4.mk 2 id a b).Bd) (h1 : 0 ≤ id) (h2 : id ≤ 4294967295) : Calls Try.prog 11 #[.agg #[.int .i64 2, .int .i64 id, .int .i64 a, .int .i64 b]] w fun en w' => en = .returned (.bool (mayE ⟨2, id, a, b⟩)) ∧ Below w.heap.size w w' := by
  have cf : ∀ w, Calls Try.prog 19 #[.int .i64 2] w fun e w' => e = .returned (.string { data := #[] }) ∧ Below w.heap.size w w' := fun w => ref_formE 2 w (by omega); have HT := Lib.hid (mayE_iff ⟨2, id, a, b⟩); have ha := hbd.a; have hb := hbd.b; clear hbd; simp only at ha hb; obtain ⟨a1, a2⟩ := ha; obtain ⟨b1, b2⟩ := hb
  by_cases ha0 : a = 0
  · subst ha0
    by_cases hb0 : b = 0
    · subst hb0
      (have HV := Lib.hid (HT.out.2 (by unfold mayT; simp only; (first | omega | (simp <;> omega)))); go_enter Try.func11, Try.ntmps11; go_wp2_with (first | (go_at_call 19; (with_reducible refine (cf _).mono ?_); rintro e w1 ⟨rfl, hb1⟩; obtain ⟨hc1, hf1⟩ := bcell hb1; have hz1 := hb1.size; (try simp only [World.size_alloc, World.size_setCell, World.size_drew] at hz1))); (try (refine wp_loop_rounds 3 ?_; iterate 3 ((try rw [rounds_succ]); (try go_wp2)))); refine bodyPost_ret (v := .bool true) (by simp [results, Try.results11, go_sem, ↓IntWalk.iteOmega, *]) rfl ?_; rw [HV.out]; exact ⟨rfl, by (repeat (first | (with_reducible exact Below.refl _ _) | ((with_reducible refine Below.alloc ?_ ?hB _); (case hB => (first | omega | (simp; done) | (simp; omega)))) | ((with_reducible refine Below.setCell ?_ ?hB _); (case hB => (first | omega | (simp; done) | (simp; omega)))) | (with_reducible refine Below.drew ?_) | ((with_reducible refine below_ext_of ?_ ?hB); (case hB => (first | omega | (simp; done) | (simp; omega)))) | ((with_reducible refine Below.trans ?_ (Below.mono (by assumption) ?hB)); (case hB => (first | omega | (simp; done) | (simp; omega))))))⟩)
    · skip
      (have HV := Lib.hid (Bool.eq_false_iff.2 (fun h => by have h := HT.out.1 h; unfold mayT at h; (simp at h) <;> omega)); go_enter Try.func11, Try.ntmps11; go_wp2_with (first | (go_at_call 19; (with_reducible refine (cf _).mono ?_); rintro e w1 ⟨rfl, hb1⟩; obtain ⟨hc1, hf1⟩ := bcell hb1; have hz1 := hb1.size; (try simp only [World.size_alloc, World.size_setCell, World.size_drew] at hz1))); (try (refine wp_loop_rounds 3 ?_; iterate 3 ((try rw [rounds_succ]); (try go_wp2)))); refine bodyPost_ret (v := .bool false) (by simp [results, Try.results11, go_sem, ↓IntWalk.iteOmega, *]) rfl ?_; rw [HV.out]; exact ⟨rfl, by (repeat (first | (with_reducible exact Below.refl _ _) | ((with_reducible refine Below.alloc ?_ ?hB _); (case hB => (first | omega | (simp; done) | (simp; omega)))) | ((with_reducible refine Below.setCell ?_ ?hB _); (case hB => (first | omega | (simp; done) | (simp; omega)))) | (with_reducible refine Below.drew ?_) | ((with_reducible refine below_ext_of ?_ ?hB); (case hB => (first | omega | (simp; done) | (simp; omega)))) | ((with_reducible refine Below.trans ?_ (Below.mono (by assumption) ?hB)); (case hB => (first | omega | (simp; done) | (simp; omega))))))⟩)
  · skip
    (have HV := Lib.hid (Bool.eq_false_iff.2 (fun h => by have h := HT.out.1 h; unfold mayT at h; (simp at h) <;> omega)); go_enter Try.func11, Try.ntmps11; go_wp2_with (first | (go_at_call 19; (with_reducible refine (cf _).mono ?_); rintro e w1 ⟨rfl, hb1⟩; obtain ⟨hc1, hf1⟩ := bcell hb1; have hz1 := hb1.size; (try simp only [World.size_alloc, World.size_setCell, World.size_drew] at hz1))); (try (refine wp_loop_rounds 3 ?_; iterate 3 ((try rw [rounds_succ]); (try go_wp2)))); refine bodyPost_ret (v := .bool false) (by simp [results, Try.results11, go_sem, ↓IntWalk.iteOmega, *]) rfl ?_; rw [HV.out]; exact ⟨rfl, by (repeat (first | (with_reducible exact Below.refl _ _) | ((with_reducible refine Below.alloc ?_ ?hB _); (case hB => (first | omega | (simp; done) | (simp; omega)))) | ((with_reducible refine Below.setCell ?_ ?hB _); (case hB => (first | omega | (simp; done) | (simp; omega)))) | (with_reducible refine Below.drew ?_) | ((with_reducible refine below_ext_of ?_ ?hB); (case hB => (first | omega | (simp; done) | (simp; omega)))) | ((with_reducible refine Below.trans ?_ (Below.mono (by assumption) ?hB)); (case hB => (first | omega | (simp; done) | (simp; omega))))))⟩)
end Go.Proofs.Ytinnaiofgbjicaa
namespace Go.Proofs.Ytinnaiofgbjicaa
open Go.RowKit Go.Proofs.YtinnaiofgbjicaaW.PrintWords
set_option linter.unusedSimpArgs false
set_option linter.unusedVariables false
set_option maxRecDepth 1000000
set_option maxHeartbeats 2000000 in
theorem ref_may3 (id a b : Int) (w : World) (hbd : (E4.mk 3 id a b).Bd) (h1 : 0 ≤ id) (h2 : id ≤ 4294967295) : Calls Try.prog 11 #[.agg #[.int .i64 3, .int .i64 id, .int .i64 a, .int .i64 b]] w fun en w' => en = .returned (.bool (mayE ⟨3, id, a, b⟩)) ∧ Below w.heap.size w w' := by
  have cf : ∀ w, Calls Try.prog 19 #[.int .i64 3] w fun e w' => e = .returned (.string { data := #[117, 117] }) ∧ Below w.heap.size w w' := fun w => ref_formE 3 w (by omega); have HT := Lib.hid (mayE_iff ⟨3, id, a, b⟩); have ha := hbd.a; have hb := hbd.b; clear hbd; simp only at ha hb; obtain ⟨a1, a2⟩ := ha; obtain ⟨b1, b2⟩ := hb
  by_cases hal : 0 ≤ a
  · skip
    by_cases hah : a ≤ 4294967295
    · skip
      by_cases hbl : 0 ≤ b
      · skip
        by_cases hbh : b ≤ 4294967295
        · skip
          (have HV := Lib.hid (HT.out.2 (by unfold mayT; simp only; (first | omega | (simp <;> omega)))); go_enter Try.func11, Try.ntmps11; go_wp2_with (first | (go_at_call 19; (with_reducible refine (cf _).mono ?_); rintro e w1 ⟨rfl, hb1⟩; obtain ⟨hc1, hf1⟩ := bcell hb1; have hz1 := hb1.size; (try simp only [World.size_alloc, World.size_setCell, World.size_drew] at hz1))); (try (refine wp_loop_rounds 3 ?_; iterate 3 ((try rw [rounds_succ]); (try go_wp2)))); refine bodyPost_ret (v := .bool true) (by simp [results, Try.results11, go_sem, ↓IntWalk.iteOmega, *]) rfl ?_; rw [HV.out]; exact ⟨rfl, by (repeat (first | (with_reducible exact Below.refl _ _) | ((with_reducible refine Below.alloc ?_ ?hB _); (case hB => (first | omega | (simp; done) | (simp; omega)))) | ((with_reducible refine Below.setCell ?_ ?hB _); (case hB => (first | omega | (simp; done) | (simp; omega)))) | (with_reducible refine Below.drew ?_) | ((with_reducible refine below_ext_of ?_ ?hB); (case hB => (first | omega | (simp; done) | (simp; omega)))) | ((with_reducible refine Below.trans ?_ (Below.mono (by assumption) ?hB)); (case hB => (first | omega | (simp; done) | (simp; omega))))))⟩)
        · replace hbh : 4294967295 < b := by omega
          (have HV := Lib.hid (Bool.eq_false_iff.2 (fun h => by have h := HT.out.1 h; unfold mayT at h; (simp at h) <;> omega)); go_enter Try.func11, Try.ntmps11; go_wp2_with (first | (go_at_call 19; (with_reducible refine (cf _).mono ?_); rintro e w1 ⟨rfl, hb1⟩; obtain ⟨hc1, hf1⟩ := bcell hb1; have hz1 := hb1.size; (try simp only [World.size_alloc, World.size_setCell, World.size_drew] at hz1))); (try (refine wp_loop_rounds 3 ?_; iterate 3 ((try rw [rounds_succ]); (try go_wp2)))); refine bodyPost_ret (v := .bool false) (by simp [results, Try.results11, go_sem, ↓IntWalk.iteOmega, *]) rfl ?_; rw [HV.out]; exact ⟨rfl, by (repeat (first | (with_reducible exact Below.refl _ _) | ((with_reducible refine Below.alloc ?_ ?hB _); (case hB => (first | omega | (simp; done) | (simp; omega)))) | ((with_reducible refine Below.setCell ?_ ?hB _); (case hB => (first | omega | (simp; done) | (simp; omega)))) | (with_reducible refine Below.drew ?_) | ((with_reducible refine below_ext_of ?_ ?hB); (case hB => (first | omega | (simp; done) | (simp; omega)))) | ((with_reducible refine Below.trans ?_ (Below.mono (by assumption) ?hB)); (case hB => (first | omega | (simp; done) | (simp; omega))))))⟩)
      · replace hbl : b < 0 := by omega
        (have HV := Lib.hid (Bool.eq_false_iff.2 (fun h => by have h := HT.out.1 h; unfold mayT at h; (simp at h) <;> omega)); go_enter Try.func11, Try.ntmps11; go_wp2_with (first | (go_at_call 19; (with_reducible refine (cf _).mono ?_); rintro e w1 ⟨rfl, hb1⟩; obtain ⟨hc1, hf1⟩ := bcell hb1; have hz1 := hb1.size; (try simp only [World.size_alloc, World.size_setCell, World.size_drew] at hz1))); (try (refine wp_loop_rounds 3 ?_; iterate 3 ((try rw [rounds_succ]); (try go_wp2)))); refine bodyPost_ret (v := .bool false) (by simp [results, Try.results11, go_sem, ↓IntWalk.iteOmega, *]) rfl ?_; rw [HV.out]; exact ⟨rfl, by (repeat (first | (with_reducible exact Below.refl _ _) | ((with_reducible refine Below.alloc ?_ ?hB _); (case hB => (first | omega | (simp; done) | (simp; omega)))) | ((with_reducible refine Below.setCell ?_ ?hB _); (case hB => (first | omega | (simp; done) | (simp; omega)))) | (with_reducible refine Below.drew ?_) | ((with_reducible refine below_ext_of ?_ ?hB); (case hB => (first | omega | (simp; done) | (simp; omega)))) | ((with_reducible refine Below.trans ?_ (Below.mono (by assumption) ?hB)); (case hB => (first | omega | (simp; done) | (simp; omega))))))⟩)
    · replace hah : 4294967295 < a := by omega
      (have HV := Lib.hid (Bool.eq_false_iff.2 (fun h => by have h := HT.out.1 h; unfold mayT at h; (simp at h) <;> omega)); go_enter Try.func11, Try.ntmps11; go_wp2_with (first | (go_at_call 19; (with_reducible refine (cf _).mono ?_); rintro e w1 ⟨rfl, hb1⟩; obtain ⟨hc1, hf1⟩ := bcell hb1; have hz1 := hb1.size; (try simp only [World.size_alloc, World.size_setCell, World.size_drew] at hz1))); (try (refine wp_loop_rounds 3 ?_; iterate 3 ((try rw [rounds_succ]); (try go_wp2)))); refine bodyPost_ret (v := .bool false) (by simp [results, Try.results11, go_sem, ↓IntWalk.iteOmega, *]) rfl ?_; rw [HV.out]; exact ⟨rfl, by (repeat (first | (with_reducible exact Below.refl _ _) | ((with_reducible refine Below.alloc ?_ ?hB _); (case hB => (first | omega | (simp; done) | (simp; omega)))) | ((with_reducible refine Below.setCell ?_ ?hB _); (case hB => (first | omega | (simp; done) | (simp; omega)))) | (with_reducible refine Below.drew ?_) | ((with_reducible refine below_ext_of ?_ ?hB); (case hB => (first | omega | (simp; done) | (simp; omega)))) | ((with_reducible refine Below.trans ?_ (Below.mono (by assumption) ?hB)); (case hB => (first | omega | (simp; done) | (simp; omega))))))⟩)
  · replace hal : a < 0 := by omega
    (have HV := Lib.hid (Bool.eq_false_iff.2 (fun h => by have h := HT.out.1 h; unfold mayT at h; (simp at h) <;> omega)); go_enter Try.func11, Try.ntmps11; go_wp2_with (first | (go_at_call 19; (with_reducible refine (cf _).mono ?_); rintro e w1 ⟨rfl, hb1⟩; obtain ⟨hc1, hf1⟩ := bcell hb1; have hz1 := hb1.size; (try simp only [World.size_alloc, World.size_setCell, World.size_drew] at hz1))); (try (refine wp_loop_rounds 3 ?_; iterate 3 ((try rw [rounds_succ]); (try go_wp2)))); refine bodyPost_ret (v := .bool false) (by simp [results, Try.results11, go_sem, ↓IntWalk.iteOmega, *]) rfl ?_; rw [HV.out]; exact ⟨rfl, by (repeat (first | (with_reducible exact Below.refl _ _) | ((with_reducible refine Below.alloc ?_ ?hB _); (case hB => (first | omega | (simp; done) | (simp; omega)))) | ((with_reducible refine Below.setCell ?_ ?hB _); (case hB => (first | omega | (simp; done) | (simp; omega)))) | (with_reducible refine Below.drew ?_) | ((with_reducible refine below_ext_of ?_ ?hB); (case hB => (first | omega | (simp; done) | (simp; omega)))) | ((with_reducible refine Below.trans ?_ (Below.mono (by assumption) ?hB)); (case hB => (first | omega | (simp; done) | (simp; omega))))))⟩)
set_option maxHeartbeats 2000000 in
theorem ref_may4 (id a b : Int) (w : World) (hbd : (E4.mk 4 id a b).Bd) (h1 : 0 ≤ id) (h2 : id ≤ 4294967295) : Calls Try.prog 11 #[.agg #[.int .i64 4, .int .i64 id, .int .i64 a, .int .i64 b]] w fun en w' => en = .returned (.bool (mayE ⟨4, id, a, b⟩)) ∧ Below w.heap.size w w' := by
  have cf : ∀ w, Calls Try.prog 19 #[.int .i64 4] w fun e w' => e = .returned (.string { data := #[105, 105] }) ∧ Below w.heap.size w w' := fun w => ref_formE 4 w (by omega); have HT := Lib.hid (mayE_iff ⟨4, id, a, b⟩); have ha := hbd.a; have hb := hbd.b; clear hbd; simp only at ha hb; obtain ⟨a1, a2⟩ := ha; obtain ⟨b1, b2⟩ := hb
  by_cases hal : -2147483648 ≤ a
  · skip
    by_cases hah : a ≤ 2147483647
    · skip
      by_cases hbl : -2147483648 ≤ b
      · skip
        by_cases hbh : b ≤ 2147483647
        · skip
          (have HV := Lib.hid (HT.out.2 (by unfold mayT; simp only; (first | omega | (simp <;> omega)))); go_enter Try.func11, Try.ntmps11; go_wp2_with (first | (go_at_call 19; (with_reducible refine (cf _).mono ?_); rintro e w1 ⟨rfl, hb1⟩; obtain ⟨hc1, hf1⟩ := bcell hb1; have hz1 := hb1.size; (try simp only [World.size_alloc, World.size_setCell, World.size_drew] at hz1))); (try (refine wp_loop_rounds 3 ?_; iterate 3 ((try rw [rounds_succ]); (try go_wp2)))); refine bodyPost_ret (v := .bool true) (by simp [results, Try.results11, go_sem, ↓IntWalk.iteOmega, *]) rfl ?_; rw [HV.out]; exact ⟨rfl, by (repeat (first | (with_reducible exact Below.refl _ _) | ((with_reducible refine Below.alloc ?_ ?hB _); (case hB => (first | omega | (simp; done) | (simp; omega)))) | ((with_reducible refine Below.setCell ?_ ?hB _); (case hB => (first | omega | (simp; done) | (simp; omega)))) | (with_reducible refine Below.drew ?_) | ((with_reducible refine below_ext_of ?_ ?hB); (case hB => (first | omega | (simp; done) | (simp; omega)))) | ((with_reducible refine Below.trans ?_ (Below.mono (by assumption) ?hB)); (case hB => (first | omega | (simp; done) | (simp; omega))))))⟩)
        · replace hbh : 2147483647 < b := by omega
          (have HV := Lib.hid (Bool.eq_false_iff.2 (fun h => by have h := HT.out.1 h; unfold mayT at h; (simp at h) <;> omega)); go_enter Try.func11, Try.ntmps11; go_wp2_with (first | (go_at_call 19; (with_reducible refine (cf _).mono ?_); rintro e w1 ⟨rfl, hb1⟩; obtain ⟨hc1, hf1⟩ := bcell hb1; have hz1 := hb1.size; (try simp only [World.size_alloc, World.size_setCell, World.size_drew] at hz1))); (try (refine wp_loop_rounds 3 ?_; iterate 3 ((try rw [rounds_succ]); (try go_wp2)))); refine bodyPost_ret (v := .bool false) (by simp [results, Try.results11, go_sem, ↓IntWalk.iteOmega, *]) rfl ?_; rw [HV.out]; exact ⟨rfl, by (repeat (first | (with_reducible exact Below.refl _ _) | ((with_reducible refine Below.alloc ?_ ?hB _); (case hB => (first | omega | (simp; done) | (simp; omega)))) | ((with_reducible refine Below.setCell ?_ ?hB _); (case hB => (first | omega | (simp; done) | (simp; omega)))) | (with_reducible refine Below.drew ?_) | ((with_reducible refine below_ext_of ?_ ?hB); (case hB => (first | omega | (simp; done) | (simp; omega)))) | ((with_reducible refine Below.trans ?_ (Below.mono (by assumption) ?hB)); (case hB => (first | omega | (simp; done) | (simp; omega))))))⟩)
      · replace hbl : b < -2147483648 := by omega
        (have HV := Lib.hid (Bool.eq_false_iff.2 (fun h => by have h := HT.out.1 h; unfold mayT at h; (simp at h) <;> omega)); go_enter Try.func11, Try.ntmps11; go_wp2_with (first | (go_at_call 19; (with_reducible refine (cf _).mono ?_); rintro e w1 ⟨rfl, hb1⟩; obtain ⟨hc1, hf1⟩ := bcell hb1; have hz1 := hb1.size; (try simp only [World.size_alloc, World.size_setCell, World.size_drew] at hz1))); (try (refine wp_loop_rounds 3 ?_; iterate 3 ((try rw [rounds_succ]); (try go_wp2)))); refine bodyPost_ret (v := .bool false) (by simp [results, Try.results11, go_sem, ↓IntWalk.iteOmega, *]) rfl ?_; rw [HV.out]; exact ⟨rfl, by (repeat (first | (with_reducible exact Below.refl _ _) | ((with_reducible refine Below.alloc ?_ ?hB _); (case hB => (first | omega | (simp; done) | (simp; omega)))) | ((with_reducible refine Below.setCell ?_ ?hB _); (case hB => (first | omega | (simp; done) | (simp; omega)))) | (with_reducible refine Below.drew ?_) | ((with_reducible refine below_ext_of ?_ ?hB); (case hB => (first | omega | (simp; done) | (simp; omega)))) | ((with_reducible refine Below.trans ?_ (Below.mono (by assumption) ?hB)); (case hB => (first | omega | (simp; done) | (simp; omega))))))⟩)
    · replace hah : 2147483647 < a := by omega
      (have HV := Lib.hid (Bool.eq_false_iff.2 (fun h => by have h := HT.out.1 h; unfold mayT at h; (simp at h) <;> omega)); go_enter Try.func11, Try.ntmps11; go_wp2_with (first | (go_at_call 19; (with_reducible refine (cf _).mono ?_); rintro e w1 ⟨rfl, hb1⟩; obtain ⟨hc1, hf1⟩ := bcell hb1; have hz1 := hb1.size; (try simp only [World.size_alloc, World.size_setCell, World.size_drew] at hz1))); (try (refine wp_loop_rounds 3 ?_; iterate 3 ((try rw [rounds_succ]); (try go_wp2)))); refine bodyPost_ret (v := .bool false) (by simp [results, Try.results11, go_sem, ↓IntWalk.iteOmega, *]) rfl ?_; rw [HV.out]; exact ⟨rfl, by (repeat (first | (with_reducible exact Below.refl _ _) | ((with_reducible refine Below.alloc ?_ ?hB _); (case hB => (first | omega | (simp; done) | (simp; omega)))) | ((with_reducible refine Below.setCell ?_ ?hB _); (case hB => (first | omega | (simp; done) | (simp; omega)))) | (with_reducible refine Below.drew ?_) | ((with_reducible refine below_ext_of ?_ ?hB); (case hB => (first | omega | (simp; done) | (simp; omega)))) | ((with_reducible refine Below.trans ?_ (Below.mono (by assumption) ?hB)); (case hB => (first | omega | (simp; done) | (simp; omega))))))⟩)
  · replace hal : a < -2147483648 := by omega
    (have HV := Lib.hid (Bool.eq_false_iff.2 (fun h => by have h := HT.out.1 h; unfold mayT at h; (simp at h) <;> omega)); go_enter Try.func11, Try.ntmps11; go_wp2_with (first | (go_at_call 19; (with_reducible refine (cf _).mono ?_); rintro e w1 ⟨rfl, hb1⟩; obtain ⟨hc1, hf1⟩ := bcell hb1; have hz1 := hb1.size; (try simp only [World.size_alloc, World.size_setCell, World.size_drew] at hz1))); (try (refine wp_loop_rounds 3 ?_; iterate 3 ((try rw [rounds_succ]); (try go_wp2)))); refine bodyPost_ret (v := .bool false) (by simp [results, Try.results11, go_sem, ↓IntWalk.iteOmega, *]) rfl ?_; rw [HV.out]; exact ⟨rfl, by (repeat (first | (with_reducible exact Below.refl _ _) | ((with_reducible refine Below.alloc ?_ ?hB _); (case hB => (first | omega | (simp; done) | (simp; omega)))) | ((with_reducible refine Below.setCell ?_ ?hB _); (case hB => (first | omega | (simp; done) | (simp; omega)))) | (with_reducible refine Below.drew ?_) | ((with_reducible refine below_ext_of ?_ ?hB); (case hB => (first | omega | (simp; done) | (simp; omega)))) | ((with_reducible refine Below.trans ?_ (Below.mono (by assumption) ?hB)); (case hB => (first | omega | (simp; done) | (simp; omega))))))⟩)
set_option maxHeartbeats 2000000 in
theorem ref_may5 (id a b : Int) (w : World) (hbd : (E4.mk 5 id a b).Bd) (h1 : 0 ≤ id) (h2 : id ≤ 4294967295) : Calls Try.prog 11 #[.agg #[.int .i64 5, .int .i64 id, .int .i64 a, .int .i64 b]] w fun en w' => en = .returned (.bool (mayE ⟨5, id, a, b⟩)) ∧ Below w.heap.size w w' := by
  have cf : ∀ w, Calls Try.prog 19 #[.int .i64 5] w fun e w' => e = .returned (.string { data := #[] }) ∧ Below w.heap.size w w' := fun w => ref_formE 5 w (by omega); have HT := Lib.hid (mayE_iff ⟨5, id, a, b⟩); have ha := hbd.a; have hb := hbd.b; clear hbd; simp only at ha hb; obtain ⟨a1, a2⟩ := ha; obtain ⟨b1, b2⟩ := hb
  by_cases ha0 : a = 0
  · subst ha0
    by_cases hb0 : b = 0
    · subst hb0
      (have HV := Lib.hid (HT.out.2 (by unfold mayT; simp only; (first | omega | (simp <;> omega)))); go_enter Try.func11, Try.ntmps11; go_wp2_with (first | (go_at_call 19; (with_reducible refine (cf _).mono ?_); rintro e w1 ⟨rfl, hb1⟩; obtain ⟨hc1, hf1⟩ := bcell hb1; have hz1 := hb1.size; (try simp only [World.size_alloc, World.size_setCell, World.size_drew] at hz1))); (try (refine wp_loop_rounds 3 ?_; iterate 3 ((try rw [rounds_succ]); (try go_wp2)))); refine bodyPost_ret (v := .bool true) (by simp [results, Try.results11, go_sem, ↓IntWalk.iteOmega, *]) rfl ?_; rw [HV.out]; exact ⟨rfl, by (repeat (first | (with_reducible exact Below.refl _ _) | ((with_reducible refine Below.alloc ?_ ?hB _); (case hB => (first | omega | (simp; done) | (simp; omega)))) | ((with_reducible refine Below.setCell ?_ ?hB _); (case hB => (first | omega | (simp; done) | (simp; omega)))) | (with_reducible refine Below.drew ?_) | ((with_reducible refine below_ext_of ?_ ?hB); (case hB => (first | omega | (simp; done) | (simp; omega)))) | ((with_reducible refine Below.trans ?_ (Below.mono (by assumption) ?hB)); (case hB => (first | omega | (simp; done) | (simp; omega))))))⟩)
    · skip
      (have HV := Lib.hid (Bool.eq_false_iff.2 (fun h => by have h := HT.out.1 h; unfold mayT at h; (simp at h) <;> omega)); go_enter Try.func11, Try.ntmps11; go_wp2_with (first | (go_at_call 19; (with_reducible refine (cf _).mono ?_); rintro e w1 ⟨rfl, hb1⟩; obtain ⟨hc1, hf1⟩ := bcell hb1; have hz1 := hb1.size; (try simp only [World.size_alloc, World.size_setCell, World.size_drew] at hz1))); (try (refine wp_loop_rounds 3 ?_; iterate 3 ((try rw [rounds_succ]); (try go_wp2)))); refine bodyPost_ret (v := .bool false) (by simp [results, Try.results11, go_sem, ↓IntWalk.iteOmega, *]) rfl ?_; rw [HV.out]; exact ⟨rfl, by (repeat (first | (with_reducible exact Below.refl _ _) | ((with_reducible refine Below.alloc ?_ ?hB _); (case hB => (first | omega | (simp; done) | (simp; omega)))) | ((with_reducible refine Below.setCell ?_ ?hB _); (case hB => (first | omega | (simp; done) | (simp; omega)))) | (with_reducible refine Below.drew ?_) | ((with_reducible refine below_ext_of ?_ ?hB); (case hB => (first | omega | (simp; done) | (simp; omega)))) | ((with_reducible refine Below.trans ?_ (Below.mono (by assumption) ?hB)); (case hB => (first | omega | (simp; done) | (simp; omega))))))⟩)
  · skip
    (have HV := Lib.hid (Bool.eq_false_iff.2 (fun h => by have h := HT.out.1 h; unfold mayT at h; (simp at h) <;> omega)); go_enter Try.func11, Try.ntmps11; go_wp2_with (first | (go_at_call 19; (with_reducible refine (cf _).mono ?_); rintro e w1 ⟨rfl, hb1⟩; obtain ⟨hc1, hf1⟩ := bcell hb1; have hz1 := hb1.size; (try simp only [World.size_alloc, World.size_setCell, World.size_drew] at hz1))); (try (refine wp_loop_rounds 3 ?_; iterate 3 ((try rw [rounds_succ]); (try go_wp2)))); refine bodyPost_ret (v := .bool false) (by simp [results, Try.results11, go_sem, ↓IntWalk.iteOmega, *]) rfl ?_; rw [HV.out]; exact ⟨rfl, by (repeat (first | (with_reducible exact Below.refl _ _) | ((with_reducible refine Below.alloc ?_ ?hB _); (case hB => (first | omega | (simp; done) | (simp; omega)))) | ((with_reducible refine Below.setCell ?_ ?hB _); (case hB => (first | omega | (simp; done) | (simp; omega)))) | (with_reducible refine Below.drew ?_) | ((with_reducible refine below_ext_of ?_ ?hB); (case hB => (first | omega | (simp; done) | (simp; omega)))) | ((with_reducible refine Below.trans ?_ (Below.mono (by assumption) ?hB)); (case hB => (first | omega | (simp; done) | (simp; omega))))))⟩)
set_option maxHeartbeats 2000000 in
theorem ref_mayOut (k id a b : Int) (w : World) (hbd : (E4.mk k id a b).Bd) (h : k < 0 ∨ (0 ≤ k ∧ 5 < k) ∨ (0 ≤ k ∧ k ≤ 5 ∧ id < 0) ∨ (0 ≤ k ∧ k ≤ 5 ∧ 0 ≤ id ∧ 4294967295 < id)) : Calls Try.prog 11 #[.agg #[.int .i64 k, .int .i64 id, .int .i64 a, .int .i64 b]] w fun en w' => en = .returned (.bool (mayE ⟨k, id, a, b⟩)) ∧ Below w.heap.size w w' := by
  have HV := Lib.hid (show mayE ⟨k, id, a, b⟩ = false from Bool.eq_false_iff.2 (fun hm => by have hm := (mayE_iff _).1 hm; unfold mayT at hm; simp only at hm; omega))
  obtain ⟨b1, b2⟩ := hbd.id
  simp only at b1 b2
  clear hbd
  rcases h with h1 | ⟨h1, h2⟩ | ⟨h1, h2, h3⟩ | ⟨h1, h2, h3, h4⟩
  all_goals
    go_enter Try.func11, Try.ntmps11
    go_wp2
    refine bodyPost_ret (v := .bool false) (by simp [results, Try.results11, go_sem, ↓IntWalk.iteOmega, *]) rfl ?_
    rw [HV.out]; exact ⟨rfl, by (repeat (first | (with_reducible exact Below.refl _ _) | ((with_reducible refine Below.alloc ?_ ?hB _); (case hB => (first | omega | (simp; done) | (simp; omega)))) | ((with_reducible refine Below.setCell ?_ ?hB _); (case hB => (first | omega | (simp; done) | (simp; omega)))) | (with_reducible refine Below.drew ?_) | ((with_reducible refine below_ext_of ?_ ?hB); (case hB => (first | omega | (simp; done) | (simp; omega)))) | ((with_reducible refine Below.trans ?_ (Below.mono (by assumption) ?hB)); (case hB => (first | omega | (simp; done) | (simp; omega))))))⟩
end Go.Proofs.Ytinnaiofgbjicaa
namespace Go.Proofs.Ytinnaiofgbjicaa
open Go.RowKit Go.Proofs.YtinnaiofgbjicaaW.PrintWords
set_option linter.unusedSimpArgs false
set_option linter.unusedVariables false
set_option maxRecDepth 1000000
theorem ref_MayE (e : E4) (w : World) (hbd : e.Bd) : Calls Try.prog 11 #[(.agg #[.int .i64 (e).k, .int .i64 (e).id, .int .i64 (e).a, .int .i64 (e).b])] w fun en w' => en = .returned (.bool (mayE e)) ∧ Below w.heap.size w w' := by
  obtain ⟨k, id, a, b⟩ := e
  by_cases h : (0 ≤ k ∧ k ≤ 5) ∧ 0 ≤ id ∧ id ≤ 4294967295
  · obtain ⟨h0, h1, h2⟩ := h
    rcases (show k = 0 ∨ k = 1 ∨ k = 2 ∨ k = 3 ∨ k = 4 ∨ k = 5 by omega) with rfl | rfl | rfl | rfl | rfl | rfl
    · exact ref_may0 id a b w hbd h1 h2
    · exact ref_may1 id a b w hbd h1 h2
    · exact ref_may2 id a b w hbd h1 h2
    · exact ref_may3 id a b w hbd h1 h2
    · exact ref_may4 id a b w hbd h1 h2
    · exact ref_may5 id a b w hbd h1 h2
  · exact ref_mayOut k id a b w hbd (by omega)
end Go.Proofs.Ytinnaiofgbjicaa
