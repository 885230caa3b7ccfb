/- Messages and their bytes, walked. -/
import Derived.Test.YtinnaiofgbjicaaDoorEvA
namespace Go.Proofs.YtinnaiofgbjicaaDoor
open Go.RowKit Go.Proofs.YtinnaiofgbjicaaDoorW.PrintWords
set_option linter.unusedSimpArgs false
set_option linter.unusedVariables false
set_option maxRecDepth 1000000
def mayM (op id : Int) (n : Nat) : Bool := decide (0 ≤ op ∧ op ≤ 255 ∧ 0 ≤ id ∧ id ≤ 4294967295 ∧ n ≤ 4096)
theorem mayM_yes {op id : Int} {n : Nat} (h : mayM op id n = true) : 0 ≤ op ∧ op ≤ 255 ∧ 0 ≤ id ∧ id ≤ 4294967295 ∧ n ≤ 4096 := of_decide_eq_true h
theorem mayM_no {op id : Int} {n : Nat} (h : mayM op id n = false) : op < 0 ∨ (0 ≤ op ∧ 255 < op) ∨ (0 ≤ op ∧ op ≤ 255 ∧ id < 0) ∨ (0 ≤ op ∧ op ≤ 255 ∧ 0 ≤ id ∧ 4294967295 < id) ∨ (0 ≤ op ∧ op ≤ 255 ∧ 0 ≤ id ∧ id ≤ 4294967295 ∧ 4096 < n) := by
  have := of_decide_eq_false h; omega
theorem frame_May (op id : Int) (A : Option Addr) (n c : Nat) (w : World) (hn : n ≤ 9223372036854775807) : Calls Tryd.prog 44 #[(.agg #[.int .i64 (op), .int .i64 (id), .slice (A) (n) (c)])] w fun e w' => e = .returned (.bool (mayM op id n)) ∧ Below w.heap.size w w' := by
  cases h : mayM op id n
  · rcases mayM_no h with h1 | ⟨h1, h2⟩ | ⟨h1, h2, h3⟩ | ⟨h1, h2, h3, h4⟩ | ⟨h1, h2, h3, h4, h5⟩
    all_goals
      clear h
      go_enter Tryd.func44, Tryd.ntmps44
      go_wp2
      (go_ret; refine ⟨?_, by (repeat (first | (with_reducible exact Below.refl _ _) | ((with_reducible refine Below.alloc ?_ ?hB _); (case hB => (first | omega | (simp; done) | (simp; omega)))) | ((with_reducible refine Below.setCell ?_ ?hB _); (case hB => (first | omega | (simp; done) | (simp; omega)))) | (with_reducible refine Below.drew ?_) | ((with_reducible refine below_ext_of ?_ ?hB); (case hB => (first | omega | (simp; done) | (simp; omega)))) | ((with_reducible refine Below.trans ?_ (Below.mono (by assumption) ?hB)); (case hB => (first | omega | (simp; done) | (simp; omega))))))⟩); (first | rfl | exact congrArg (fun x => Ending.returned (.bool x)) (decide_eq_false (by omega)))
  · obtain ⟨h1, h2, h3, h4, h5⟩ := mayM_yes h
    clear h
    go_enter Tryd.func44, Tryd.ntmps44
    go_wp2
    (go_ret; refine ⟨?_, by (repeat (first | (with_reducible exact Below.refl _ _) | ((with_reducible refine Below.alloc ?_ ?hB _); (case hB => (first | omega | (simp; done) | (simp; omega)))) | ((with_reducible refine Below.setCell ?_ ?hB _); (case hB => (first | omega | (simp; done) | (simp; omega)))) | (with_reducible refine Below.drew ?_) | ((with_reducible refine below_ext_of ?_ ?hB); (case hB => (first | omega | (simp; done) | (simp; omega)))) | ((with_reducible refine Below.trans ?_ (Below.mono (by assumption) ?hB)); (case hB => (first | omega | (simp; done) | (simp; omega))))))⟩); (first | rfl | exact congrArg (fun x => Ending.returned (.bool x)) (decide_eq_true (by omega)))
theorem ref_MayM (op id : Int) (A : Option Addr) (n c : Nat) (w : World) (hn : n ≤ 9223372036854775807) : Calls Tryd.prog 38 #[(.agg #[.int .i64 (op), .int .i64 (id), .slice (A) (n) (c)])] w fun e w' => e = .returned (.bool (mayM op id n)) ∧ Below w.heap.size w w' := by
  cases h : mayM op id n
  · rcases mayM_no h with h1 | ⟨h1, h2⟩ | ⟨h1, h2, h3⟩ | ⟨h1, h2, h3, h4⟩ | ⟨h1, h2, h3, h4, h5⟩
    all_goals
      clear h
      go_enter Tryd.func38, Tryd.ntmps38
      go_wp2
      (go_ret; refine ⟨?_, by (repeat (first | (with_reducible exact Below.refl _ _) | ((with_reducible refine Below.alloc ?_ ?hB _); (case hB => (first | omega | (simp; done) | (simp; omega)))) | ((with_reducible refine Below.setCell ?_ ?hB _); (case hB => (first | omega | (simp; done) | (simp; omega)))) | (with_reducible refine Below.drew ?_) | ((with_reducible refine below_ext_of ?_ ?hB); (case hB => (first | omega | (simp; done) | (simp; omega)))) | ((with_reducible refine Below.trans ?_ (Below.mono (by assumption) ?hB)); (case hB => (first | omega | (simp; done) | (simp; omega))))))⟩); (first | rfl | exact congrArg (fun x => Ending.returned (.bool x)) (decide_eq_false (by omega)))
  · obtain ⟨h1, h2, h3, h4, h5⟩ := mayM_yes h
    clear h
    go_enter Tryd.func38, Tryd.ntmps38
    go_wp2
    (go_ret; refine ⟨?_, by (repeat (first | (with_reducible exact Below.refl _ _) | ((with_reducible refine Below.alloc ?_ ?hB _); (case hB => (first | omega | (simp; done) | (simp; omega)))) | ((with_reducible refine Below.setCell ?_ ?hB _); (case hB => (first | omega | (simp; done) | (simp; omega)))) | (with_reducible refine Below.drew ?_) | ((with_reducible refine below_ext_of ?_ ?hB); (case hB => (first | omega | (simp; done) | (simp; omega)))) | ((with_reducible refine Below.trans ?_ (Below.mono (by assumption) ?hB)); (case hB => (first | omega | (simp; done) | (simp; omega))))))⟩); (first | rfl | exact congrArg (fun x => Ending.returned (.bool x)) (decide_eq_true (by omega)))
/-- The seven bytes ahead of a body. -/
def head7 (op id : Int) (n : Nat) : List Int := [(7 + (n : Int)) / 256 % 256, (7 + (n : Int)) % 256, op % 256, id / 16777216 % 256, id / 65536 % 256, id / 256 % 256, id % 256]
def msgB (op id : Int) (b : List Int) : List Int := head7 op id b.length ++ b
def headS (op id : Int) (n : Nat) : List Int := [(7 + (n : Int)) / 256, (7 + (n : Int)) % 256, op, id / 16777216, id / 65536 % 256, id / 256 % 256, id % 256]
theorem head_s {op id : Int} {n : Nat} (h : mayM op id n = true) : headS op id n = head7 op id n := by
  obtain ⟨h1, h2, h3, h4, h5⟩ := mayM_yes h
  unfold headS head7
  simp only [List.cons.injEq, and_true, true_and]
  omega
def WrP (w : World) (op id : Int) (b : List Int) (e : Ending) (w' : World) : Prop := ∃ v, e = .returned (.tuple #[v, .int .i64 0]) ∧ w'.ownsRow w.heap.size 5 1 v (msgB op id b).length (nums .u8 (msgB op id b)) ∧ Below w.heap.size w w'
theorem frame_WriteNo (op id : Int) (A : Option Addr) (n c : Nat) (w : World) (hn : n ≤ 9223372036854775807) (h : mayM op id n = false) : Calls Tryd.prog 87 #[(.agg #[.int .i64 (op), .int .i64 (id), .slice (A) (n) (c)])] w fun e w' => e = .returned (.tuple #[.slice none 0 0, .int .i64 1]) ∧ Below w.heap.size w w' := by
  have cm := fun w => frame_May op id A n c w hn
  rw [h] at cm
  go_enter Tryd.func87, Tryd.ntmps87
  go_wp2_with (first | (go_at_call 44; (with_reducible refine (cm _).mono ?_); rintro e w1 ⟨rfl, hb1⟩; obtain ⟨hc1, hf1⟩ := bcell hb1; have hz1 := hb1.size; (try simp only [World.size_alloc, World.size_setCell, World.size_drew] at hz1)))
  go_ret2
  exact ⟨rfl, by (repeat (first | (with_reducible exact Below.refl _ _) | ((with_reducible refine Below.alloc ?_ ?hB _); (case hB => (first | omega | (simp; done) | (simp; omega)))) | ((with_reducible refine Below.setCell ?_ ?hB _); (case hB => (first | omega | (simp; done) | (simp; omega)))) | (with_reducible refine Below.drew ?_) | ((with_reducible refine below_ext_of ?_ ?hB); (case hB => (first | omega | (simp; done) | (simp; omega)))) | ((with_reducible refine Below.trans ?_ (Below.mono (by assumption) ?hB)); (case hB => (first | omega | (simp; done) | (simp; omega))))))⟩
theorem frame_WriteYes (op id : Int) (A : Option Addr) (b : List Int) (c : Nat) (w : World) (hs : BS w A b c) (h : mayM op id b.length = true) : Calls Tryd.prog 87 #[(.agg #[.int .i64 (op), .int .i64 (id), .slice (A) (b.length) (c)])] w (WrP w op id b) := by
  have cm := fun w => frame_May op id A b.length c w hs.rd.2.1
  have HH := Lib.hid (head_s h)
  rw [h] at cm
  obtain ⟨h1, h2, h3, h4, h5⟩ := mayM_yes h
  have HS := Lib.hid hs
  clear h hs
  have hl := fun w1 : World => (show (w1.alloc (.cells #[.int .u8 ((7 + (b.length : Int)) / 256), .int .u8 ((7 + (b.length : Int)) % 256), .int .u8 op, .int .u8 (id / 16777216), .int .u8 (id / 65536 % 256), .int .u8 (id / 256 % 256), .int .u8 (id % 256)] 5)).ownsRow w1.heap.size 5 1 (.slice (some ⟨w1.heap.size, 0, none⟩) 7 7) (headS op id b.length).length (nums .u8 (headS op id b.length)) from own_lit w1 w1.heap.size 5 .u8 (headS op id b.length) (Nat.le_refl _) (by simp [headS]))
  have hlen : (headS op id b.length).length = 7 := rfl
  go_enter Tryd.func87, Tryd.ntmps87
  go_wp2_with (first | (go_at_call 44; (with_reducible refine (cm _).mono ?_); rintro e w1 ⟨rfl, hb1⟩; obtain ⟨hc1, hf1⟩ := bcell hb1; have hz1 := hb1.size; (try simp only [World.size_alloc, World.size_setCell, World.size_drew] at hz1)) | (at_builtin; refine print_append_row (w0 := w1) (w1.heap.size) rfl _ _ 22 5 .u8 1 rfl Tryd.underlying22 info_u8 (by decide) _ ((headS op id b.length)) (b) _ _ _ rfl rfl (pw_own_below (hl w1) ?_) (ReadsInt.below HS.out.rd ?_) ?_ ?_ ?_ ?_; (focus ((repeat (first | (with_reducible exact Below.refl _ _) | ((with_reducible refine Below.alloc ?_ ?hB _); (case hB => (first | omega | (simp; done) | (simp; omega)))) | ((with_reducible refine Below.setCell ?_ ?hB _); (case hB => (first | omega | (simp; done) | (simp; omega)))) | (with_reducible refine Below.drew ?_) | ((with_reducible refine below_ext_of ?_ ?hB); (case hB => (first | omega | (simp; done) | (simp; omega)))) | ((with_reducible refine Below.trans ?_ (Below.mono (by assumption) ?hB)); (case hB => (first | omega | (simp; done) | (simp; omega)))))); done)); (focus ((repeat (first | (with_reducible exact Below.refl _ _) | ((with_reducible refine Below.alloc ?_ ?hB _); (case hB => (first | omega | (simp; done) | (simp; omega)))) | ((with_reducible refine Below.setCell ?_ ?hB _); (case hB => (first | omega | (simp; done) | (simp; omega)))) | (with_reducible refine Below.drew ?_) | ((with_reducible refine below_ext_of ?_ ?hB); (case hB => (first | omega | (simp; done) | (simp; omega)))) | ((with_reducible refine Below.trans ?_ (Below.mono (by assumption) ?hB)); (case hB => (first | omega | (simp; done) | (simp; omega)))))); done)); (focus ((repeat (first | (with_reducible exact Below.refl _ _) | ((with_reducible refine Below.alloc ?_ ?hB _); (case hB => (first | omega | (simp; done) | (simp; omega)))) | ((with_reducible refine Below.setCell ?_ ?hB _); (case hB => (first | omega | (simp; done) | (simp; omega)))) | (with_reducible refine Below.drew ?_) | ((with_reducible refine below_ext_of ?_ ?hB); (case hB => (first | omega | (simp; done) | (simp; omega)))) | ((with_reducible refine Below.trans ?_ (Below.mono (by assumption) ?hB)); (case hB => (first | omega | (simp; done) | (simp; omega)))))); done)); (focus ((first | omega | (simp; done) | (simp; omega)); done)); (focus ((try simp only [List.length_append, List.length_cons, List.length_nil]); omega)); intro v2 w2 hown2 hb2 _ _; have hz2 := hb2.size; (try simp only [World.size_alloc, World.size_setCell, World.size_drew] at hz2); obtain ⟨hc2, hf2⟩ := bcellB hb2))
  go_ret2
  exact ⟨_, rfl, by unfold msgB; rw [← HH.out]; exact own_less hown2 (by omega), (show Below w.heap.size w w1 from by (repeat (first | (with_reducible exact Below.refl _ _) | ((with_reducible refine Below.alloc ?_ ?hB _); (case hB => (first | omega | (simp; done) | (simp; omega)))) | ((with_reducible refine Below.setCell ?_ ?hB _); (case hB => (first | omega | (simp; done) | (simp; omega)))) | (with_reducible refine Below.drew ?_) | ((with_reducible refine below_ext_of ?_ ?hB); (case hB => (first | omega | (simp; done) | (simp; omega)))) | ((with_reducible refine Below.trans ?_ (Below.mono (by assumption) ?hB)); (case hB => (first | omega | (simp; done) | (simp; omega))))))).trans (hb2.mono (by omega))⟩
theorem ref_WriteNo (op id : Int) (A : Option Addr) (n c : Nat) (w : World) (hn : n ≤ 9223372036854775807) (h : mayM op id n = false) : Calls Tryd.prog 29 #[(.agg #[.int .i64 (op), .int .i64 (id), .slice (A) (n) (c)])] w fun e w' => e = .returned (.tuple #[.slice none 0 0, .int .i64 1]) ∧ Below w.heap.size w w' := by
  have cm := fun w => ref_MayM op id A n c w hn
  rw [h] at cm
  go_enter Tryd.func29, Tryd.ntmps29
  go_wp2_with (first | (go_at_call 38; (with_reducible refine (cm _).mono ?_); rintro e w1 ⟨rfl, hb1⟩; obtain ⟨hc1, hf1⟩ := bcell hb1; have hz1 := hb1.size; (try simp only [World.size_alloc, World.size_setCell, World.size_drew] at hz1)))
  go_ret2
  exact ⟨rfl, by (repeat (first | (with_reducible exact Below.refl _ _) | ((with_reducible refine Below.alloc ?_ ?hB _); (case hB => (first | omega | (simp; done) | (simp; omega)))) | ((with_reducible refine Below.setCell ?_ ?hB _); (case hB => (first | omega | (simp; done) | (simp; omega)))) | (with_reducible refine Below.drew ?_) | ((with_reducible refine below_ext_of ?_ ?hB); (case hB => (first | omega | (simp; done) | (simp; omega)))) | ((with_reducible refine Below.trans ?_ (Below.mono (by assumption) ?hB)); (case hB => (first | omega | (simp; done) | (simp; omega))))))⟩
theorem ref_WriteYes (op id : Int) (A : Option Addr) (b : List Int) (c : Nat) (w : World) (hs : BS w A b c) (h : mayM op id b.length = true) : Calls Tryd.prog 29 #[(.agg #[.int .i64 (op), .int .i64 (id), .slice (A) (b.length) (c)])] w (WrP w op id b) := by
  have cm := fun w => ref_MayM op id A b.length c w hs.rd.2.1
  have HH := Lib.hid (head_s h)
  rw [h] at cm
  obtain ⟨h1, h2, h3, h4, h5⟩ := mayM_yes h
  have HS := Lib.hid hs
  clear h hs
  have hl := fun w1 : World => (show (w1.alloc (.cells #[.int .u8 ((7 + (b.length : Int)) / 256), .int .u8 ((7 + (b.length : Int)) % 256), .int .u8 op, .int .u8 (id / 16777216), .int .u8 (id / 65536 % 256), .int .u8 (id / 256 % 256), .int .u8 (id % 256)] 5)).ownsRow w1.heap.size 5 1 (.slice (some ⟨w1.heap.size, 0, none⟩) 7 7) (headS op id b.length).length (nums .u8 (headS op id b.length)) from own_lit w1 w1.heap.size 5 .u8 (headS op id b.length) (Nat.le_refl _) (by simp [headS]))
  have hlen : (headS op id b.length).length = 7 := rfl
  go_enter Tryd.func29, Tryd.ntmps29
  go_wp2_with (first | (go_at_call 38; (with_reducible refine (cm _).mono ?_); rintro e w1 ⟨rfl, hb1⟩; obtain ⟨hc1, hf1⟩ := bcell hb1; have hz1 := hb1.size; (try simp only [World.size_alloc, World.size_setCell, World.size_drew] at hz1)) | (at_builtin; refine print_append_row (w0 := w1) (w1.heap.size) rfl _ _ 22 5 .u8 1 rfl Tryd.underlying22 info_u8 (by decide) _ ((headS op id b.length)) (b) _ _ _ rfl rfl (pw_own_below (hl w1) ?_) (ReadsInt.below HS.out.rd ?_) ?_ ?_ ?_ ?_; (focus ((repeat (first | (with_reducible exact Below.refl _ _) | ((with_reducible refine Below.alloc ?_ ?hB _); (case hB => (first | omega | (simp; done) | (simp; omega)))) | ((with_reducible refine Below.setCell ?_ ?hB _); (case hB => (first | omega | (simp; done) | (simp; omega)))) | (with_reducible refine Below.drew ?_) | ((with_reducible refine below_ext_of ?_ ?hB); (case hB => (first | omega | (simp; done) | (simp; omega)))) | ((with_reducible refine Below.trans ?_ (Below.mono (by assumption) ?hB)); (case hB => (first | omega | (simp; done) | (simp; omega)))))); done)); (focus ((repeat (first | (with_reducible exact Below.refl _ _) | ((with_reducible refine Below.alloc ?_ ?hB _); (case hB => (first | omega | (simp; done) | (simp; omega)))) | ((with_reducible refine Below.setCell ?_ ?hB _); (case hB => (first | omega | (simp; done) | (simp; omega)))) | (with_reducible refine Below.drew ?_) | ((with_reducible refine below_ext_of ?_ ?hB); (case hB => (first | omega | (simp; done) | (simp; omega)))) | ((with_reducible refine Below.trans ?_ (Below.mono (by assumption) ?hB)); (case hB => (first | omega | (simp; done) | (simp; omega)))))); done)); (focus ((repeat (first | (with_reducible exact Below.refl _ _) | ((with_reducible refine Below.alloc ?_ ?hB _); (case hB => (first | omega | (simp; done) | (simp; omega)))) | ((with_reducible refine Below.setCell ?_ ?hB _); (case hB => (first | omega | (simp; done) | (simp; omega)))) | (with_reducible refine Below.drew ?_) | ((with_reducible refine below_ext_of ?_ ?hB); (case hB => (first | omega | (simp; done) | (simp; omega)))) | ((with_reducible refine Below.trans ?_ (Below.mono (by assumption) ?hB)); (case hB => (first | omega | (simp; done) | (simp; omega)))))); done)); (focus ((first | omega | (simp; done) | (simp; omega)); done)); (focus ((try simp only [List.length_append, List.length_cons, List.length_nil]); omega)); intro v2 w2 hown2 hb2 _ _; have hz2 := hb2.size; (try simp only [World.size_alloc, World.size_setCell, World.size_drew] at hz2); obtain ⟨hc2, hf2⟩ := bcellB hb2))
  go_ret2
  exact ⟨_, rfl, by unfold msgB; rw [← HH.out]; exact own_less hown2 (by omega), (show Below w.heap.size w w1 from by (repeat (first | (with_reducible exact Below.refl _ _) | ((with_reducible refine Below.alloc ?_ ?hB _); (case hB => (first | omega | (simp; done) | (simp; omega)))) | ((with_reducible refine Below.setCell ?_ ?hB _); (case hB => (first | omega | (simp; done) | (simp; omega)))) | (with_reducible refine Below.drew ?_) | ((with_reducible refine below_ext_of ?_ ?hB); (case hB => (first | omega | (simp; done) | (simp; omega)))) | ((with_reducible refine Below.trans ?_ (Below.mono (by assumption) ?hB)); (case hB => (first | omega | (simp; done) | (simp; omega))))))).trans (hb2.mono (by omega))⟩
end Go.Proofs.YtinnaiofgbjicaaDoor
