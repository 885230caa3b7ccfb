/- The document's example of layer 8, walked. -/
import Derived.Test.YtinnaiofgbjicaaDoorArgL
import Derived.Test.YtinnaiofgbjicaaDoorArgK
namespace Go.Proofs.YtinnaiofgbjicaaDoor
open Go.RowKit Go.Proofs.YtinnaiofgbjicaaDoorW.PrintWords
set_option linter.unusedSimpArgs false
set_option linter.unusedVariables false
set_option maxRecDepth 1000000
def lf : ByteArray := { data := #[105, 115] }
def ll : List V8 := [{ v0 with n := -1 }, { v0 with kind := 1, s := { data := #[97] } }]
theorem lives_pack : packP lf ll = (0, [255, 255, 255, 255, 1, 97]) := by decide +kernel
theorem str_reads {w : World} {A : Option Addr} {n c : Nat} {xs : List Int} (h : ReadsInt w .u8 A n xs) : (convert 22 9 (.slice A n c)).run Tryd.prog w = .ok (.string (strOfNums xs)) w :=
  string_of_reads Tryd.underlying22 Tryd.underlying5 Tryd.underlying9 h
def LivesP (w : World) (e : Ending) (w' : World) : Prop := ∃ A c, e = .returned (.tuple #[.slice A 6 c, .int .i64 0]) ∧ ReadsInt w' .u8 A 6 [255, 255, 255, 255, 1, 97] ∧ Below w.heap.size w w'
theorem lives_call (w : World) : Calls Tryd.prog 58 #[.string { data := #[105, 115] }, .slice (some ⟨w.heap.size, 0, none⟩) 2 2] (w.alloc (.cells #[(.iface 3 (.int .i64 (-1))), (.iface 9 (.string { data := #[97] }))] 20)) (LivesP (w.alloc (.cells #[(.iface 3 (.int .i64 (-1))), (.iface 9 (.string { data := #[97] }))] 20))) := by
  have h := args_Pack lf (some ⟨w.heap.size, 0, none⟩) ll 2 (w.alloc (.cells #[(.iface 3 (.int .i64 (-1))), (.iface 9 (.string { data := #[97] }))] 20)) (Nat.le_refl _) (by decide) ?_ ?_
  · refine h.mono fun e w' ⟨A, n, c, he, hn, hc, hr, hb⟩ => ?_
    rw [lives_pack] at he hn hr
    simp only [List.length_cons, List.length_nil] at hn
    subst hn
    exact ⟨A, c, he, hr, hb⟩
  · intro i hi
    have hi' : i = 0 ∨ i = 1 := by simp only [ll, List.length_cons, List.length_nil] at hi; omega
    rcases hi' with rfl | rfl
    · exact ⟨by decide, by decide, by decide, by decide, by decide, by decide, by decide, by decide⟩
    · exact ⟨by decide, by decide, by decide, by decide, by decide, by decide, by decide, by decide⟩
  · intro i hi
    have hi' : i = 0 ∨ i = 1 := by simp only [ll, List.length_cons, List.length_nil] at hi; omega
    rcases hi' with rfl | rfl
    · exact ⟨_, _, rfl, by rw [add_p, World.cell?_alloc_new]; rfl, AnyR.int rfl⟩
    · exact ⟨_, _, rfl, by rw [add_p, World.cell?_alloc_new]; rfl, AnyR.str rfl⟩
theorem lives_str : strOfNums [255, 255, 255, 255, 1, 97] = { data := #[255, 255, 255, 255, 1, 97] } := by decide +kernel
end Go.Proofs.YtinnaiofgbjicaaDoor
