/- The kinds of events and their forms, walked. -/
import Derived.Test.YtinnaiofgbjicaaDoorEvB
namespace Go.Proofs.YtinnaiofgbjicaaDoor
open Go.RowKit Go.Proofs.YtinnaiofgbjicaaDoorW.PrintWords
set_option linter.unusedSimpArgs false
set_option linter.unusedVariables false
set_option maxRecDepth 1000000
def formE (k : Int) : ByteArray := if k = 0 ∨ k = 3 then { data := #[117, 117] } else if k = 1 then { data := #[117] } else if k = 4 then { data := #[105, 105] } else { data := #[] }
theorem ref_formE (k : Int) (w : World) (h : 0 ≤ k ∧ k ≤ 5) : Calls Tryd.prog 48 #[.int .i64 k] w fun e w' => e = .returned (.string (formE k)) ∧ Below w.heap.size w w' := by
  rcases (show k = 0 ∨ k = 1 ∨ k = 2 ∨ k = 3 ∨ k = 4 ∨ k = 5 by omega) with rfl | rfl | rfl | rfl | rfl | rfl
  all_goals
    go_enter Tryd.func48, Tryd.ntmps48
    go_wp2
    (go_ret; refine ⟨?_, by (repeat (first | (with_reducible exact Below.refl _ _) | ((with_reducible refine Below.alloc ?_ ?hB _); (case hB => (first | omega | (simp; done) | (simp; omega)))) | ((with_reducible refine Below.setCell ?_ ?hB _); (case hB => (first | omega | (simp; done) | (simp; omega)))) | (with_reducible refine Below.drew ?_) | ((with_reducible refine below_ext_of ?_ ?hB); (case hB => (first | omega | (simp; done) | (simp; omega)))) | ((with_reducible refine Below.trans ?_ (Below.mono (by assumption) ?hB)); (case hB => (first | omega | (simp; done) | (simp; omega))))))⟩); rfl
def isE (k : Int) : Bool := decide (0 ≤ k ∧ k ≤ 5)
theorem ev_is (k : Int) (w : World) : Calls Tryd.prog 49 #[.int .i64 k] w fun e w' => e = .returned (.bool (isE k)) ∧ w = w' := by
  by_cases h0 : 0 ≤ k
  · by_cases h1 : k < 6
    · have H := Lib.hid (show isE k = true from decide_eq_true (by omega))
      have hd : decide (k < 6) = true := decide_eq_true h1
      go_enter Tryd.func49, Tryd.ntmps49
      go_wp2
      go_ret
      exact ⟨by rw [H.out]; rfl, rfl⟩
    · have H := Lib.hid (show isE k = false from decide_eq_false (by omega))
      have hd : decide (k < 6) = false := decide_eq_false h1
      go_enter Tryd.func49, Tryd.ntmps49
      go_wp2
      go_ret
      exact ⟨by rw [H.out]; rfl, rfl⟩
  · have H := Lib.hid (show isE k = false from decide_eq_false (by omega))
    go_enter Tryd.func49, Tryd.ntmps49
    go_wp2
    go_ret
    exact ⟨by rw [H.out]; rfl, rfl⟩
def nameE (k : Int) : ByteArray := if k = 0 then { data := #[101, 114, 114, 111, 114] } else if k = 1 then { data := #[102, 97, 116, 97, 108] } else if k = 2 then { data := #[114, 101, 108, 101, 97, 115, 101] } else if k = 3 then { data := #[100, 111, 110, 101] } else if k = 4 then { data := #[101, 110, 116, 101, 114] } else { data := #[108, 101, 97, 118, 101] }
set_option maxHeartbeats 2000000 in
theorem ev_form (k : Int) (w : World) (h : 0 ≤ k ∧ k ≤ 5) : Calls Tryd.prog 50 #[.int .i64 k] w fun e w' => e = .returned (.tuple #[.string (nameE k), .string (formE k)]) ∧ Below w.heap.size w w' := by
  rcases (show k = 0 ∨ k = 1 ∨ k = 2 ∨ k = 3 ∨ k = 4 ∨ k = 5 by omega) with rfl | rfl | rfl | rfl | rfl | rfl
  all_goals
    go_enter Tryd.func50, Tryd.ntmps50
    go_wp2
    go_region_with (fail)
    all_goals
      go_wp2
      go_ret2
      exact ⟨rfl, by (repeat (first | (with_reducible exact Below.refl _ _) | ((with_reducible refine Below.alloc ?_ ?hB _); (case hB => (first | omega | (simp; done) | (simp; omega)))) | ((with_reducible refine Below.setCell ?_ ?hB _); (case hB => (first | omega | (simp; done) | (simp; omega)))) | (with_reducible refine Below.drew ?_) | ((with_reducible refine below_ext_of ?_ ?hB); (case hB => (first | omega | (simp; done) | (simp; omega)))) | ((with_reducible refine Below.trans ?_ (Below.mono (by assumption) ?hB)); (case hB => (first | omega | (simp; done) | (simp; omega))))))⟩
/-- The numbers of an event, as arguments. -/
def vI (n : Int) : V8 := { v0 with n := n }
def argsE (e : E4) : List V8 := [vI e.a, vI e.b].take (formE e.k).size
def NumP (w : World) (l : List V8) (e : Ending) (w' : World) : Prop := ∃ A c, e = .returned (.slice A l.length c) ∧ (l.length ≤ c ∧ AnyRow w' A l) ∧ Below w.heap.size w w'
theorem any_two (w : World) (a b : Int) (n : Nat) (hn : n ≤ 2) : AnyRow (w.alloc (.cells #[(.iface 3 (.int .i64 a)), (.iface 3 (.int .i64 b))] 20)) (some ⟨w.heap.size, 0, none⟩) ([vI a, vI b].take n) := by
  intro i hi
  have hi2 : i < n ∧ i < 2 := by simp at hi; omega
  have e : at8 ([vI a, vI b].take n) i = at8 [vI a, vI b] i := by
    unfold at8; rw [List.getD_eq_getElem?_getD, List.getElem?_take, if_pos hi2.1, List.getD_eq_getElem?_getD]
  rw [e]
  rcases (show i = 0 ∨ i = 1 by omega) with rfl | rfl
  · exact ⟨_, _, rfl, by rw [add_p, World.cell?_alloc_new]; rfl, AnyR.int rfl⟩
  · exact ⟨_, _, rfl, by rw [add_p, World.cell?_alloc_new]; rfl, AnyR.int rfl⟩
theorem ev_numbers (e : E4) (w : World) (h : 0 ≤ e.k ∧ e.k ≤ 5) : Calls Tryd.prog 52 #[(.agg #[.int .i64 (e).k, .int .i64 (e).id, .int .i64 (e).a, .int .i64 (e).b])] w (NumP w (argsE e)) := by
  obtain ⟨k, id, a, b⟩ := e
  simp only at h
  have cf := fun w => ev_form k w h
  unfold argsE
  simp only
  have hN : ∀ (n : Nat) (W W' : World) , n ≤ 2 → Below w.heap.size w W → W' = W.alloc (.cells #[(.iface 3 (.int .i64 a)), (.iface 3 (.int .i64 b))] 20) → w.heap.size ≤ W.heap.size → NumP w ([vI a, vI b].take n) (.returned (.slice (some ⟨W.heap.size, 0, none⟩) n 2)) W' := fun n W W' hn hb hw hz => by
    subst hw
    have hl : ([vI a, vI b].take n).length = n := by simp; omega
    exact ⟨some ⟨W.heap.size, 0, none⟩, 2, by rw [hl], ⟨by omega, any_two W a b n hn⟩, hb.alloc hz _⟩
  rcases (show k = 0 ∨ k = 1 ∨ k = 2 ∨ k = 3 ∨ k = 4 ∨ k = 5 by omega) with rfl | rfl | rfl | rfl | rfl | rfl
  all_goals
    simp only [formE] at cf
    go_enter Tryd.func52, Tryd.ntmps52
    go_wp2_with (first | (go_at_call 50; (with_reducible refine (cf _).mono ?_); rintro e w1 ⟨rfl, hb1⟩; obtain ⟨hc1, hf1⟩ := bcell hb1; have hz1 := hb1.size; (try simp only [World.size_alloc, World.size_setCell, World.size_drew] at hz1)))
    go_ret
    first
      | exact hN 2 _ _ (by omega) (by (repeat (first | (with_reducible exact Below.refl _ _) | ((with_reducible refine Below.alloc ?_ ?hB _); (case hB => (first | omega | (simp; done) | (simp; omega)))) | ((with_reducible refine Below.setCell ?_ ?hB _); (case hB => (first | omega | (simp; done) | (simp; omega)))) | (with_reducible refine Below.drew ?_) | ((with_reducible refine below_ext_of ?_ ?hB); (case hB => (first | omega | (simp; done) | (simp; omega)))) | ((with_reducible refine Below.trans ?_ (Below.mono (by assumption) ?hB)); (case hB => (first | omega | (simp; done) | (simp; omega))))))) rfl (by omega)
      | exact hN 1 _ _ (by omega) (by (repeat (first | (with_reducible exact Below.refl _ _) | ((with_reducible refine Below.alloc ?_ ?hB _); (case hB => (first | omega | (simp; done) | (simp; omega)))) | ((with_reducible refine Below.setCell ?_ ?hB _); (case hB => (first | omega | (simp; done) | (simp; omega)))) | (with_reducible refine Below.drew ?_) | ((with_reducible refine below_ext_of ?_ ?hB); (case hB => (first | omega | (simp; done) | (simp; omega)))) | ((with_reducible refine Below.trans ?_ (Below.mono (by assumption) ?hB)); (case hB => (first | omega | (simp; done) | (simp; omega))))))) rfl (by omega)
      | exact hN 0 _ _ (by omega) (by (repeat (first | (with_reducible exact Below.refl _ _) | ((with_reducible refine Below.alloc ?_ ?hB _); (case hB => (first | omega | (simp; done) | (simp; omega)))) | ((with_reducible refine Below.setCell ?_ ?hB _); (case hB => (first | omega | (simp; done) | (simp; omega)))) | (with_reducible refine Below.drew ?_) | ((with_reducible refine below_ext_of ?_ ?hB); (case hB => (first | omega | (simp; done) | (simp; omega)))) | ((with_reducible refine Below.trans ?_ (Below.mono (by assumption) ?hB)); (case hB => (first | omega | (simp; done) | (simp; omega))))))) rfl (by omega)
end Go.Proofs.YtinnaiofgbjicaaDoor
