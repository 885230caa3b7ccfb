/- A new image, walked; a buffer that is made. -/
import Derived.Test.YtbkhcdmmnlkhdaaGreatPoolA
namespace Go.Proofs.YtbkhcdmmnlkhdaaGreat
open Go.RowKit Go.Maps Go.Proofs.YtbkhcdmmnlkhdaaGreatW.PrintWords
set_option linter.unusedSimpArgs false
set_option linter.unusedVariables false
set_option maxRecDepth 1000000
theorem info_co : (Tryz.prog.info? 169).map (fun i => (i.zero, i.size, i.bytes)) = some (some (.int .u32 0), 1, 4) := by kernel_rfl
/-- An image at block m, its colors in a row of its own. -/
structure Img (w : World) (base m : Nat) (v : Value) (W H : Nat) (px : List Int) : Prop where
  blk : w.heap[m]? = some (.cells #[.int .i64 W, .int .i64 H, v] 221 (0, 0))
  row : w.ownsRow base 169 1 v (W * H) (nums .u32 px)
def newE (W H : Int) : Int := if W < 1 ∨ H < 1 ∨ 256 < W ∨ 256 < H then 1 else 0
def NewP (w : World) (W H : Int) (e : Ending) (w' : World) : Prop :=
  Below w.heap.size w w' ∧ (newE W H ≠ 0 → e = .returned (.tuple #[.pointer none, .int .i64 1])) ∧
  (newE W H = 0 → e = .returned (.tuple #[(.pointer (some ⟨w.heap.size + 1, 0, none⟩)), .int .i64 0]) ∧ Img w' w.heap.size (w.heap.size + 1) (.slice (some ⟨w.heap.size, 0, none⟩) (W.toNat * H.toNat) (W.toNat * H.toNat)) W.toNat H.toNat (List.replicate (W.toNat * H.toNat) 0))
set_option maxHeartbeats 1000000 in
theorem image_New (W H : Int) (w : World) (hW : -9223372036854775808 ≤ W ∧ W ≤ 9223372036854775807) (hH : -9223372036854775808 ≤ H ∧ H ≤ 9223372036854775807) : Calls Tryz.prog 129 #[.int .i64 W, .int .i64 H] w (NewP w W H) := by
  by_cases hbad : W < 1 ∨ H < 1 ∨ 256 < W ∨ 256 < H
  · have HE := Lib.hid (show newE W H = 1 from by unfold newE; rw [if_pos hbad])
    have hend : ∀ e w', e = .returned (.tuple #[.pointer none, .int .i64 1]) → Below w.heap.size w w' → NewP w W H e w' := fun e w' he hb => ⟨hb, fun _ => he, fun h => by rw [HE.out] at h; cases h⟩
    have hend := Lib.hid hend
    by_cases h1 : min W H < 1
    · clear hbad
      go_enter Tryz.func129, Tryz.ntmps129
      go_wp2
      go_ret2
      exact hend.out _ _ rfl (by (repeat (first | (with_reducible exact Below.refl _ _) | ((with_reducible refine Below.alloc ?_ ?hB _); (case hB => (first | omega | (simp; done) | (simp; omega)))) | ((with_reducible refine Below.setCell ?_ ?hB _); (case hB => (first | omega | (simp; done) | (simp; omega)))) | (with_reducible refine Below.drew ?_) | ((with_reducible refine below_ext_of ?_ ?hB); (case hB => (first | omega | (simp; done) | (simp; omega)))) | ((with_reducible refine Below.trans ?_ (Below.mono (by assumption) ?hB)); (case hB => (first | omega | (simp; done) | (simp; omega)))))))
    · have h2 : 256 < max W H := by omega
      clear hbad
      go_enter Tryz.func129, Tryz.ntmps129
      go_wp2
      go_ret2
      exact hend.out _ _ rfl (by (repeat (first | (with_reducible exact Below.refl _ _) | ((with_reducible refine Below.alloc ?_ ?hB _); (case hB => (first | omega | (simp; done) | (simp; omega)))) | ((with_reducible refine Below.setCell ?_ ?hB _); (case hB => (first | omega | (simp; done) | (simp; omega)))) | (with_reducible refine Below.drew ?_) | ((with_reducible refine below_ext_of ?_ ?hB); (case hB => (first | omega | (simp; done) | (simp; omega)))) | ((with_reducible refine Below.trans ?_ (Below.mono (by assumption) ?hB)); (case hB => (first | omega | (simp; done) | (simp; omega)))))))
  · have HE := Lib.hid (show newE W H = 0 from by unfold newE; rw [if_neg hbad])
    obtain ⟨a, rfl⟩ : ∃ a : Nat, W = a := ⟨W.toNat, by omega⟩
    obtain ⟨b, rfl⟩ : ∃ b : Nat, H = b := ⟨H.toNat, by omega⟩
    have h1 : ¬ min (a : Int) b < 1 := by omega
    have h2 : ¬ 256 < max (a : Int) b := by omega
    have hab : a * b ≤ 65536 := Nat.mul_le_mul (show a ≤ 256 by omega) (show b ≤ 256 by omega)
    have hwr : IntKind.i64.wrap ((a : Int) * b) = ((a * b : Nat) : Int) := by rw [← Int.natCast_mul, IntKind.wrap_i64]; omega
    have mk := print_make (P := Tryz.prog) 61 169 .u32 4 Tryz.underlying61 info_co (by decide) (a * b) (by omega)
    rw [Int.natCast_mul] at mk hwr
    clear hbad
    go_enter Tryz.func129, Tryz.ntmps129
    go_wp2
    go_ret2
    have ho := own_made w w.heap.size 169 .u32 (a * b) (Nat.le_refl _) (by omega)
    refine ⟨by (repeat (first | (with_reducible exact Below.refl _ _) | ((with_reducible refine Below.alloc ?_ ?hB _); (case hB => (first | omega | (simp; done) | (simp; omega)))) | ((with_reducible refine Below.setCell ?_ ?hB _); (case hB => (first | omega | (simp; done) | (simp; omega)))) | (with_reducible refine Below.drew ?_) | ((with_reducible refine below_ext_of ?_ ?hB); (case hB => (first | omega | (simp; done) | (simp; omega)))) | ((with_reducible refine Below.trans ?_ (Below.mono (by assumption) ?hB)); (case hB => (first | omega | (simp; done) | (simp; omega)))))), fun h => absurd HE.out h, fun _ => ⟨rfl, ?_, ?_⟩⟩
    · exact (World.size_alloc w _) ▸ blk_new (w.alloc _) _
    · exact ho.kept (World.grownBy_alloc _ _ none) (Or.inr (by simp [Value.ownBlock]))
end Go.Proofs.YtbkhcdmmnlkhdaaGreat
