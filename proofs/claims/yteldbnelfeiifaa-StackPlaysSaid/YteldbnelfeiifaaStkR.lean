/- What stands over a key, walked. -/
import Derived.Test.YteldbnelfeiifaaStkF
namespace Go.Proofs.Yteldbnelfeiifaa
open Go.RowKit Go.Proofs.YteldbnelfeiifaaW.PrintWords
set_option linter.unusedSimpArgs false
set_option linter.unusedVariables false
set_option maxRecDepth 1000000
attribute [local go_sem high] eqK eqKS
theorem atK_drop (l : List K2) (j i : Nat) (h : i < (l.drop j).length) : atK (l.drop j) i = atK l (j + i) := by
  have : j + i < l.length := by simp at h; omega
  rw [atK_get h, atK_get this, List.getElem_drop]
theorem KR.drop {w : World} {A : Option Addr} {l : List K2} {c : Nat} (h : KR w A l c) (j : Nat) (hj : j ≤ l.length) (hjc : ¬ c = j) : ∃ ad, A = some ad ∧ KR w (some (ad.add (j * 2))) (l.drop j) (c - j) := by
  have hle := h.le
  have hmx := h.max
  cases A with
  | none => have := h.nil rfl; omega
  | some ad =>
    refine ⟨ad, rfl, by simp; omega, (by intro e; cases e), by omega, fun i hi => ?_⟩
    have hi' : j + i < l.length := by simp at hi; omega
    obtain ⟨ad', e, h0, h1⟩ := h.row (j + i) hi'
    injection e with e
    subst e
    rw [atK_drop l j i hi]
    have ea : (ad.add (j * 2)).add (i * 2) = ad.add ((j + i) * 2) := by rw [Go.Deep.add_add]; congr 1; omega
    exact ⟨ad.add (j * 2), rfl, by rw [ea]; exact h0, by rw [ea]; exact h1⟩
def OverP (w : World) (l : List K2) (k : K2) (e : Ending) (w' : World) : Prop := ∃ v, e = .returned v ∧ OwnK w' w.heap.size 62 v (if k ∈ l then l.drop (l.idxOf k + 1) else []) ∧ Below w.heap.size w w'
theorem stk_Over (p : Nat) (l : List K2) (k : K2) (w : World) (hl : l.length ≤ 10000) (h : Stk w p l) : Calls Try.prog 43 #[(.pointer (some ⟨p, 0, none⟩)), (.agg #[.int .i64 (k).c, .int .i64 (k).i])] w (OverP w l k) := by
  have cA := fun w (h : Stk w p l) => stk_At p l k w (by omega) h
  have hS := fun w' (hb : Below w.heap.size w w') => Stk.below h hb
  have hlt := h.lt
  obtain ⟨A, c, h1, h2, h3⟩ := h.open_
  have hc := cell_one h1
  have hR := fun w' (hb : Below w.heap.size w w') => KR.below h3 hb
  by_cases hk : k ∈ l
  · obtain ⟨j, hj⟩ : ∃ j, l.idxOf k = j := ⟨_, rfl⟩
    have hr : atP l k = (j : Int) := by unfold atP; rw [if_pos hk, hj]
    have hjl : j < l.length := by rw [← hj]; exact List.idxOf_lt_length_iff.2 hk
    rw [hr] at cA
    have HT := Lib.hid (show ∀ e w', (∃ v, e = .returned v ∧ OwnK w' w.heap.size 62 v (l.drop (j + 1)) ∧ Below w.heap.size w w') → OverP w l k e w' from fun e w' h => by unfold OverP; rw [if_pos hk, hj]; exact h)
    have hle := h3.le
    have b4 : (0 : Int) ≤ (j : Int) + 1 := by omega
    by_cases hjc : c = j + 1
    · have hd0 : l.drop (j + 1) = [] := List.drop_eq_nil_of_le (by omega)
      have hll : l.length = j + 1 := by omega
      rw [hd0] at HT
      cases A with
      | none => exact absurd (h3.nil rfl) (by omega)
      | some ad =>
      have cC := fun w1 => sl_CloneK (some ad) [] 0 w1 (by simp) ⟨Nat.le_refl _, (by intro e; cases e), by omega, KRow.nil _ _⟩
      simp only [List.length_nil] at cC
      subst hjc
      rw [hll] at hc
      clear hk hr hj h h1 h2 h3 hd0 hle hjl hR
      go_enter Try.func43, Try.ntmps43
      go_wp2_with (first | (go_at_call 36; (with_reducible refine (cA _ (hS _ (by (repeat (first | (with_reducible exact Below.refl _ _) | ((with_reducible refine Below.alloc ?_ ?hB _); (case hB => (first | omega | (simp; done) | (simp; omega)))) | ((with_reducible refine Below.setCell ?_ ?hB _); (case hB => (first | omega | (simp; done) | (simp; omega)))) | (with_reducible refine Below.drew ?_) | ((with_reducible refine below_ext_of ?_ ?hB); (case hB => (first | omega | (simp; done) | (simp; omega)))) | ((with_reducible refine Below.trans ?_ (Below.mono (by assumption) ?hB)); (case hB => (first | omega | (simp; done) | (simp; omega))))))))).mono ?_); rintro e w1 ⟨rfl, hb1⟩; obtain ⟨hc1, hf1⟩ := bcell hb1; have hz1 := hb1.size; (try simp only [World.size_alloc, World.size_setCell, World.size_drew] at hz1)) | (go_at_call 62; (with_reducible refine (cC _).mono ?_); rintro e w2 ⟨v2, rfl, ho2, hb2⟩; have hz2 := hb2.size))
      go_ret
      exact HT.out _ _ ⟨_, rfl, ho2.mono (by omega), by (repeat (first | (with_reducible exact Below.refl _ _) | ((with_reducible refine Below.alloc ?_ ?hB _); (case hB => (first | omega | (simp; done) | (simp; omega)))) | ((with_reducible refine Below.setCell ?_ ?hB _); (case hB => (first | omega | (simp; done) | (simp; omega)))) | (with_reducible refine Below.drew ?_) | ((with_reducible refine below_ext_of ?_ ?hB); (case hB => (first | omega | (simp; done) | (simp; omega)))) | ((with_reducible refine Below.trans ?_ (Below.mono (by assumption) ?hB)); (case hB => (first | omega | (simp; done) | (simp; omega))))))⟩
    · have hd := fun w' hb => (hR w' hb).drop (j + 1) (by omega) hjc
      cases A with
      | none => exact absurd (h3.nil rfl) (by omega)
      | some ad =>
      have cC : ∀ w1, Below w.heap.size w w1 → Calls Try.prog 62 #[.slice (some (ad.add ((j + 1) * 2))) (l.drop (j + 1)).length (c - (j + 1))] w1 (RowP w1 62 (l.drop (j + 1))) := fun w1 hb => by
        obtain ⟨ad', e, hk⟩ := hd w1 hb
        injection e with e
        subst e
        exact sl_CloneK _ _ _ w1 (by simp; omega) hk
      have hdl : (l.drop (j + 1)).length = l.length - (j + 1) := by simp
      rw [hdl] at cC
      have b5 : j + 1 ≤ l.length := by omega
      clear hk hr hj h h1 h2 h3 hR hd hdl
      go_enter Try.func43, Try.ntmps43
      go_wp2_with (first | (go_at_call 36; (with_reducible refine (cA _ (hS _ (by (repeat (first | (with_reducible exact Below.refl _ _) | ((with_reducible refine Below.alloc ?_ ?hB _); (case hB => (first | omega | (simp; done) | (simp; omega)))) | ((with_reducible refine Below.setCell ?_ ?hB _); (case hB => (first | omega | (simp; done) | (simp; omega)))) | (with_reducible refine Below.drew ?_) | ((with_reducible refine below_ext_of ?_ ?hB); (case hB => (first | omega | (simp; done) | (simp; omega)))) | ((with_reducible refine Below.trans ?_ (Below.mono (by assumption) ?hB)); (case hB => (first | omega | (simp; done) | (simp; omega))))))))).mono ?_); rintro e w1 ⟨rfl, hb1⟩; obtain ⟨hc1, hf1⟩ := bcell hb1; have hz1 := hb1.size; (try simp only [World.size_alloc, World.size_setCell, World.size_drew] at hz1)) | (go_at_call 62; (with_reducible refine (cC _ ?_).mono ?_); (focus ((repeat (first | (with_reducible exact Below.refl _ _) | ((with_reducible refine Below.alloc ?_ ?hB _); (case hB => (first | omega | (simp; done) | (simp; omega)))) | ((with_reducible refine Below.setCell ?_ ?hB _); (case hB => (first | omega | (simp; done) | (simp; omega)))) | (with_reducible refine Below.drew ?_) | ((with_reducible refine below_ext_of ?_ ?hB); (case hB => (first | omega | (simp; done) | (simp; omega)))) | ((with_reducible refine Below.trans ?_ (Below.mono (by assumption) ?hB)); (case hB => (first | omega | (simp; done) | (simp; omega)))))); done)); rintro e w2 ⟨v2, rfl, ho2, hb2⟩; have hz2 := hb2.size))
      go_ret
      exact HT.out _ _ ⟨_, rfl, ho2.mono (by omega), by (repeat (first | (with_reducible exact Below.refl _ _) | ((with_reducible refine Below.alloc ?_ ?hB _); (case hB => (first | omega | (simp; done) | (simp; omega)))) | ((with_reducible refine Below.setCell ?_ ?hB _); (case hB => (first | omega | (simp; done) | (simp; omega)))) | (with_reducible refine Below.drew ?_) | ((with_reducible refine below_ext_of ?_ ?hB); (case hB => (first | omega | (simp; done) | (simp; omega)))) | ((with_reducible refine Below.trans ?_ (Below.mono (by assumption) ?hB)); (case hB => (first | omega | (simp; done) | (simp; omega))))))⟩
  · have hr : atP l k = -1 := by unfold atP; rw [if_neg hk]
    rw [hr] at cA
    have HT := Lib.hid (show ∀ e w', (∃ v, e = .returned v ∧ OwnK w' w.heap.size 62 v [] ∧ Below w.heap.size w w') → OverP w l k e w' from fun e w' h => by unfold OverP; rw [if_neg hk]; exact h)
    clear hk hr h h1 h2 h3
    go_enter Try.func43, Try.ntmps43
    go_wp2_with (first | (go_at_call 36; (with_reducible refine (cA _ (hS _ (by (repeat (first | (with_reducible exact Below.refl _ _) | ((with_reducible refine Below.alloc ?_ ?hB _); (case hB => (first | omega | (simp; done) | (simp; omega)))) | ((with_reducible refine Below.setCell ?_ ?hB _); (case hB => (first | omega | (simp; done) | (simp; omega)))) | (with_reducible refine Below.drew ?_) | ((with_reducible refine below_ext_of ?_ ?hB); (case hB => (first | omega | (simp; done) | (simp; omega)))) | ((with_reducible refine Below.trans ?_ (Below.mono (by assumption) ?hB)); (case hB => (first | omega | (simp; done) | (simp; omega))))))))).mono ?_); rintro e w1 ⟨rfl, hb1⟩; obtain ⟨hc1, hf1⟩ := bcell hb1; have hz1 := hb1.size; (try simp only [World.size_alloc, World.size_setCell, World.size_drew] at hz1)))
    go_ret
    exact HT.out _ _ ⟨_, rfl, OwnK.nil _ _ _, by (repeat (first | (with_reducible exact Below.refl _ _) | ((with_reducible refine Below.alloc ?_ ?hB _); (case hB => (first | omega | (simp; done) | (simp; omega)))) | ((with_reducible refine Below.setCell ?_ ?hB _); (case hB => (first | omega | (simp; done) | (simp; omega)))) | (with_reducible refine Below.drew ?_) | ((with_reducible refine below_ext_of ?_ ?hB); (case hB => (first | omega | (simp; done) | (simp; omega)))) | ((with_reducible refine Below.trans ?_ (Below.mono (by assumption) ?hB)); (case hB => (first | omega | (simp; done) | (simp; omega))))))⟩
end Go.Proofs.Yteldbnelfeiifaa
