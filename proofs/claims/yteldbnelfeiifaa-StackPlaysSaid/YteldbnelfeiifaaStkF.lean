/- A new stack of keys, walked. -/
import Derived.Test.YteldbnelfeiifaaStkE
namespace Go.Proofs.Yteldbnelfeiifaa
open Go.RowKit Go.Proofs.YteldbnelfeiifaaW.PrintWords
set_option linter.unusedSimpArgs false
set_option linter.unusedVariables false
set_option maxRecDepth 1000000
attribute [local go_sem high] eqK eqKS
theorem newL_nodup (l : List K2) : (newL l).Nodup := by
  have : ∀ (l m : List K2), m.Nodup → (l.foldl addL m).Nodup := by
    intro l
    induction l with
    | nil => intro m h; exact h
    | cons x l ih => intro m h; exact ih _ (addL_nodup h)
  exact this l [] (by simp)
theorem stk_empty (w : World) : Stk (w.alloc (.cells #[.slice none 0 0] 102)) w.heap.size [] :=
  ⟨by simp, by simp, .slice none 0 0, heap_alloc_new w _, OwnK.nil _ _ _⟩
def NewP (w : World) (l : List K2) (e : Ending) (w' : World) : Prop := e = .returned ((.pointer (some ⟨w.heap.size, 0, none⟩))) ∧ Stk w' w.heap.size (newL l) ∧ Below w.heap.size w w'
set_option maxHeartbeats 1000000 in
theorem stk_New (A : Option Addr) (l : List K2) (c : Nat) (w : World) (hl : l.length ≤ 10000) (hr : KR w A l c) : Calls Try.prog 31 #[.slice A l.length c] w (NewP w l) := by
  have hrow := hr.row
  clear hr
  have hS0 := Lib.hid (stk_empty w)
  go_enter Try.func31, Try.ntmps31
  go_wp2
  go_loopw [5, 10] (fun v i wr => ∃ j : Nat, j ≤ l.length ∧ i = .int .i64 j ∧ Below w.heap.size w wr ∧ Hid (Stk wr w.heap.size (newL (l.take j)))) (fun _ i _ => l.length - (intOf i).toNat)
  case atStart => exact ⟨0, by omega, rfl, by (repeat (first | (with_reducible exact Below.refl _ _) | ((with_reducible refine Below.alloc ?_ ?hB _); (case hB => (first | omega | (simp; done) | (simp; omega)))) | ((with_reducible refine Below.setCell ?_ ?hB _); (case hB => (first | omega | (simp; done) | (simp; omega)))) | (with_reducible refine Below.drew ?_) | ((with_reducible refine below_ext_of ?_ ?hB); (case hB => (first | omega | (simp; done) | (simp; omega)))) | ((with_reducible refine Below.trans ?_ (Below.mono (by assumption) ?hB)); (case hB => (first | omega | (simp; done) | (simp; omega)))))), hS0⟩
  case round =>
    obtain ⟨j, hj, rfl, hbr, hst⟩ := hrel
    have hzr := hst.out.lt
    by_cases hlt : j < l.length
    · obtain ⟨ad, rfl, f0, f1⟩ := hrow j hlt
      have g0 := pw_cell_below hbr f0; have g1 := pw_cell_below hbr f1
      have HT := Lib.hid (newL_take l j hlt)
      obtain ⟨m, hm⟩ : ∃ m, newL (l.take j) = m := ⟨_, rfl⟩
      have hml : m.length ≤ 10000 := by rw [← hm]; have := newL_len (l.take j); simp at this; omega
      rw [hm] at HT hst
      clear f0 f1 hrow hm
      generalize atK l j = x at *
      go_wp2_with (first | (go_at_call 32; (with_reducible refine (stk_Add _ m x _ hml (hst.out.below ?_)).mono ?_); (focus ((repeat (first | (with_reducible exact Below.refl _ _) | ((with_reducible refine Below.alloc ?_ ?hB _); (case hB => (first | omega | (simp; done) | (simp; omega)))) | ((with_reducible refine Below.setCell ?_ ?hB _); (case hB => (first | omega | (simp; done) | (simp; omega)))) | (with_reducible refine Below.drew ?_) | ((with_reducible refine below_ext_of ?_ ?hB); (case hB => (first | omega | (simp; done) | (simp; omega)))) | ((with_reducible refine Below.trans ?_ (Below.mono (by assumption) ?hB)); (case hB => (first | omega | (simp; done) | (simp; omega)))))); done)); rintro e w2 ⟨rfl, hs2⟩; have hb2 := hs2.2.1; have hz2 := hs2.2.2.1; have hs2 := Lib.hid hs2.1))
      go_roundw
      case rel => exact ⟨j + 1, by omega, by go_num, by (repeat (first | (with_reducible exact Below.refl _ _) | ((with_reducible refine Below.alloc ?_ ?hB _); (case hB => (first | omega | (simp; done) | (simp; omega)))) | ((with_reducible refine Below.setCell ?_ ?hB _); (case hB => (first | omega | (simp; done) | (simp; omega)))) | (with_reducible refine Below.drew ?_) | ((with_reducible refine below_ext_of ?_ ?hB); (case hB => (first | omega | (simp; done) | (simp; omega)))) | ((with_reducible refine Below.trans ?_ (Below.mono (by assumption) ?hB)); (case hB => (first | omega | (simp; done) | (simp; omega)))))), by rw [HT.out]; exact hs2⟩
      case measure => simp [intOf]; omega
    · obtain rfl : j = l.length := by omega
      rw [List.take_length] at hst
      clear hrow
      go_wp2
      go_ret
      exact ⟨rfl, hst.out, hbr⟩
end Go.Proofs.Yteldbnelfeiifaa
