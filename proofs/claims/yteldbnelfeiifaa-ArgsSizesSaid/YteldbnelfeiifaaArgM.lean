/- The document's example of layer 8, walked. -/
import Derived.Test.YteldbnelfeiifaaArgL
import Derived.Test.YteldbnelfeiifaaArgK
namespace Go.Proofs.Yteldbnelfeiifaa
open Go.RowKit Go.Proofs.YteldbnelfeiifaaW.PrintWords
set_option linter.unusedSimpArgs false
set_option linter.unusedVariables false
set_option maxRecDepth 1000000
def lf : ByteArray := { data := #[105, 115] }
def ll : List V8 := [{ v0 with n := -1 }, { v0 with kind := 1, s := { data := #[97] } }]
theorem lives_pack : packP lf ll = (0, [255, 255, 255, 255, 1, 97]) := by decide +kernel
theorem str_reads {w : World} {A : Option Addr} {n c : Nat} {xs : List Int} (h : ReadsInt w .u8 A n xs) : (convert 28 9 (.slice A n c)).run Try.prog w = .ok (.string (strOfNums xs)) w :=
  string_of_reads Try.underlying28 Try.underlying5 Try.underlying9 h
def LivesP (w : World) (e : Ending) (w' : World) : Prop := ∃ A c, e = .returned (.tuple #[.slice A 6 c, .int .i64 0]) ∧ ReadsInt w' .u8 A 6 [255, 255, 255, 255, 1, 97] ∧ Below w.heap.size w w'
theorem lives_call (w : World) : Calls Try.prog 17 #[.string { data := #[105, 115] }, .slice (some ⟨w.heap.size, 0, none⟩) 2 2] (w.alloc (.cells #[(.iface 3 (.int .i64 (-1))), (.iface 9 (.string { data := #[97] }))] 20)) (LivesP (w.alloc (.cells #[(.iface 3 (.int .i64 (-1))), (.iface 9 (.string { data := #[97] }))] 20))) := by
  have h := args_Pack lf (some ⟨w.heap.size, 0, none⟩) ll 2 (w.alloc (.cells #[(.iface 3 (.int .i64 (-1))), (.iface 9 (.string { data := #[97] }))] 20)) (Nat.le_refl _) (by decide) ?_ ?_
  · refine h.mono fun e w' ⟨A, n, c, he, hn, hc, hr, hb⟩ => ?_
    rw [lives_pack] at he hn hr
    simp only [List.length_cons, List.length_nil] at hn
    subst hn
    exact ⟨A, c, he, hr, hb⟩
  · intro i hi
    have hi' : i = 0 ∨ i = 1 := by simp only [ll, List.length_cons, List.length_nil] at hi; omega
    rcases hi' with rfl | rfl
    · exact ⟨by decide, by decide, by decide, by decide, by decide, by decide, by decide, by decide⟩
    · exact ⟨by decide, by decide, by decide, by decide, by decide, by decide, by decide, by decide⟩
  · intro i hi
    have hi' : i = 0 ∨ i = 1 := by simp only [ll, List.length_cons, List.length_nil] at hi; omega
    rcases hi' with rfl | rfl
    · exact ⟨_, _, rfl, by rw [add_p, World.cell?_alloc_new]; rfl, AnyR.int rfl⟩
    · exact ⟨_, _, rfl, by rw [add_p, World.cell?_alloc_new]; rfl, AnyR.str rfl⟩
theorem lives_str : strOfNums [255, 255, 255, 255, 1, 97] = { data := #[255, 255, 255, 255, 1, 97] } := by decide +kernel
theorem args_lives (w : World) : Calls Try.prog 22 #[] w fun e w' => e = .returned (.bool true) ∧ Below w.heap.size w w' := by
  have kd : ∀ w : World, (convert 28 9 (.slice (some ⟨w.heap.size, 0, none⟩) 6 6)).run Try.prog (w.alloc (.cells #[.int .u8 255, .int .u8 255, .int .u8 255, .int .u8 255, .int .u8 1, .int .u8 97] 5)) = .ok (.string { data := #[255, 255, 255, 255, 1, 97] }) (w.alloc (.cells #[.int .u8 255, .int .u8 255, .int .u8 255, .int .u8 255, .int .u8 1, .int .u8 97] 5)) := fun w => by
    have := str_reads (c := 6) (reads_lit w [255, 255, 255, 255, 1, 97] (by simp))
    rw [lives_str] at this; exact this
  go_enter Try.func22, Try.ntmps22
  go_wp2_with (first | (go_at_call 17; (with_reducible refine (lives_call _).mono ?_); rintro e w1 ⟨A1, c1, rfl, hr1, hb1⟩; have hs1 := str_reads (c := c1) hr1; rw [lives_str] at hs1; clear hr1; have hz1 := hb1.size; simp only [World.size_alloc] at hz1))
  (go_ret; refine ⟨?_, by (repeat (first | (with_reducible exact Below.refl _ _) | ((with_reducible refine Below.alloc ?_ ?hB _); (case hB => (first | omega | (simp; done) | (simp; omega)))) | ((with_reducible refine Below.setCell ?_ ?hB _); (case hB => (first | omega | (simp; done) | (simp; omega)))) | (with_reducible refine Below.drew ?_) | ((with_reducible refine below_ext_of ?_ ?hB); (case hB => (first | omega | (simp; done) | (simp; omega)))) | ((with_reducible refine Below.trans ?_ (Below.mono (by assumption) ?hB)); (case hB => (first | omega | (simp; done) | (simp; omega))))))⟩); rfl
end Go.Proofs.Yteldbnelfeiifaa
