/- slices.Sort of whole numbers, off the shelf. -/
import Derived.Test.YtbkhcdmmnlkhdaaGreatKeep
import Derived.Shelf.SlGeneric
import Derived.Shelf.SortM.Plain
import Derived.Shelf.SortM.SortNone
import Derived.Ground.SlgmProg
import Derived.Sort.OwnSortedInts
namespace Go.Proofs
open Go.Shelf
shelf_lay_g SlLaysM.n5 Slgm 5 at Tryz 65 as Tryz.sortL
end Go.Proofs
namespace Go.Proofs.YtbkhcdmmnlkhdaaGreat
open Go.RowKit Go.Sort Go.Proofs.YtbkhcdmmnlkhdaaGreatW.PrintWords
def sorted (zs : List Int) : List Int := zs.mergeSort fun x y => decide (x ≤ y)
theorem sorted_len (zs : List Int) : (sorted zs).length = zs.length := List.length_mergeSort _
theorem ints_Sort (base : Nat) (v : Value) (n : Nat) (zs : List Int) (w : World) (hn : n ≤ 1000000000000) (h : w.ownsRow base 3 1 v n (nums .i64 zs)) : Calls Tryz.prog 65 #[v] w fun e w' => e = .returned (.tuple #[]) ∧ w'.ownsRow base 3 1 v n (nums .i64 (sorted zs)) ∧ w.grownBy w' v.ownBlock := by
  have hl : zs.length = n := by have := h.1; simpa [nums] using this
  rcases h.2 with ⟨rfl, h0⟩ | ⟨g, cap, cur, rfl, hbase, hg, h1, h2, h3, h4⟩
  · subst h0
    have hz : zs = [] := List.eq_nil_of_length_eq_zero hl
    subst hz
    have c := AnyM.slices_Sort_int_none Tryz.sortL none 0 w
    change Calls Tryz.prog 65 _ _ _ at c
    refine c.mono ?_
    rintro e w' ⟨rfl, rfl⟩
    refine ⟨rfl, ?_, ⟨rfl, rfl, rfl, Nat.le_refl _, fun _ _ _ => rfl⟩⟩
    have : sorted [] = [] := by simp [sorted]
    rw [this]; exact h
  · have hH := holds_of_blockI (ss := zs) hg (by have := h4; rw [Nat.mul_one, ← hl] at this; rw [this]; rfl)
    subst hl
    have c := AnyM.slices_Sort_int Tryz.sortL g 0 cap zs w hH (blk_lt hg) (by omega)
    change Calls Tryz.prog 65 _ _ _ at c
    refine c.mono ?_
    rintro e w' ⟨rfl, k, os, rfl⟩
    exact ⟨rfl, ownsRow_sortedI (sorted_len zs) hbase hg h1 h2 h3, grownBy_sortedI _⟩
end Go.Proofs.YtbkhcdmmnlkhdaaGreat
