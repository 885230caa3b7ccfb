/- slices.Compact of whole numbers, off the shelf; a row of one's own, cut. -/
import Derived.Test.YtbkhcdmmnlkhdaaGreatSrt
import Derived.Test.YtbkhcdmmnlkhdaaGreatRowG
import Derived.Shelf.SlicesG.CompactI
import Derived.Ground.SlgnProg
namespace Go.Proofs
open Go.Shelf
shelf_lay_g SlLaysN.n43 Slgn 43 at Tryz 216 as Tryz.compactL
end Go.Proofs
namespace Go.Proofs.YtbkhcdmmnlkhdaaGreat
open Go.RowKit Go.Sort Go.Proofs.YtbkhcdmmnlkhdaaGreatW.PrintWords
set_option linter.unusedSimpArgs false
set_option linter.unusedVariables false
theorem own_cut {w : World} {base : Nat} {e : TypeId} {size : Nat} {A : Option Addr} {n c : Nat} {xs : List Value} (h : w.ownsRow base e size (.slice A n c) n xs) (k : Nat) (hk : k ≤ n) (hA : A = none → k = 0 ∧ c = 0) : w.ownsRow base e size (.slice A k c) k (xs.take (k * size)) := by
  have hx := h.1
  refine ⟨by rw [List.length_take, hx, Nat.min_eq_left (Nat.mul_le_mul_right _ hk)], ?_⟩
  rcases h.2 with ⟨hn, h0⟩ | ⟨g, cap, cur, hv, hg, hh, h1, h2, h3, h4⟩
  · injection hn with e1 e2 e3
    subst e1
    obtain ⟨rfl, rfl⟩ := hA rfl
    exact .inl ⟨rfl, rfl⟩
  · injection hv with e1 e2 e3
    subst e1 e3
    refine .inr ⟨g, c, cur, rfl, hg, hh, by omega, h2, h3, ?_⟩
    rw [← h4, List.take_take, Nat.min_eq_left (Nat.mul_le_mul_right _ hk)]
theorem ints_Compact (base : Nat) (v : Value) (n : Nat) (zs : List Int) (w : World) (hn : n ≤ 1000000000000) (h : w.ownsRow base 3 1 v n (nums .i64 zs)) : Calls Tryz.prog 216 #[v] w fun e w' => ∃ v', e = .returned v' ∧ w'.ownsRow base 3 1 v' (Lib.compact zs).length (nums .i64 (Lib.compact zs)) ∧ w.grownBy w' v.ownBlock ∧ v'.ownBlock = v.ownBlock := by
  have hl : zs.length = n := by have := h.1; simpa [nums] using this
  rcases h.2 with ⟨rfl, h0⟩ | ⟨g, cap, cur, rfl, hbase, hg, h1, h2, h3, h4⟩
  · subst h0
    have hz : zs = [] := List.eq_nil_of_length_eq_zero hl
    subst hz
    have c := AnyG.slices_Compact_int_empty Tryz.compactL none 0 w
    change Calls Tryz.prog 216 _ _ _ at c
    refine c.mono ?_
    rintro e w' ⟨rfl, rfl⟩
    refine ⟨_, rfl, ?_, ⟨rfl, rfl, rfl, Nat.le_refl _, fun _ _ _ => rfl⟩, rfl⟩
    have : Lib.compact ([] : List Int) = [] := rfl
    rw [this]; exact h
  · have hH := holds_of_blockI (ss := zs) hg (by have := h4; rw [Nat.mul_one, ← hl] at this; rw [this]; rfl)
    subst hl
    have c := AnyG.slices_Compact_int Tryz.compactL g 0 cap zs w hH (by omega) h1
    change Calls Tryz.prog 216 _ _ _ at c
    refine c.mono ?_
    rintro e w' ⟨rfl, k, rfl⟩
    have hcl : (Lib.compact zs).length ≤ zs.length := by
      unfold Lib.compact Lib.compactUpTo
      rw [List.length_map]
      refine Nat.le_trans (List.length_filter_le _ _) ?_
      simp
    have hts : (Lib.compact zs ++ List.replicate (zs.length - (Lib.compact zs).length) 0).length = zs.length := by simp; omega
    have hr := ownsRow_sortedI (os := #[]) (n := k) hts hbase hg h1 h2 h3
    have hgr := grownBy_sortedI (w := w) (g := g) (n := k) (os := #[]) (Lib.compact zs ++ List.replicate (zs.length - (Lib.compact zs).length) 0).toArray
    have e0 : ∀ W : World, grow W #[] = W := fun W => by simp [grow]
    rw [e0] at hr hgr
    refine ⟨_, rfl, ?_, hgr, rfl⟩
    have hc := own_cut hr (Lib.compact zs).length hcl (fun e => by cases e)
    rw [Nat.mul_one, ← List.map_take, List.take_left' rfl] at hc
    exact hc
theorem ints_Sort' (base : Nat) (v : Value) (zs : List Int) (w : World) (hn : zs.length ≤ 1000000000000) (h : OwnG (EI .i64) w base 3 v zs) : Calls Tryz.prog 65 #[v] w fun e w' => e = .returned (.tuple #[]) ∧ OwnG (EI .i64) w' base 3 v (sorted zs) ∧ w.grownBy w' v.ownBlock :=
  (ints_Sort base v zs.length zs w hn (own_int.1 h)).mono fun e w' ⟨h1, h2, h3⟩ => ⟨h1, own_int.2 (by rw [sorted_len]; exact h2), h3⟩
theorem ints_Compact' (base : Nat) (v : Value) (zs : List Int) (w : World) (hn : zs.length ≤ 1000000000000) (h : OwnG (EI .i64) w base 3 v zs) : Calls Tryz.prog 216 #[v] w fun e w' => ∃ v', e = .returned v' ∧ OwnG (EI .i64) w' base 3 v' (Lib.compact zs) ∧ w.grownBy w' v.ownBlock :=
  (ints_Compact base v zs.length zs w hn (own_int.1 h)).mono fun e w' ⟨v', h1, h2, h3, _⟩ => ⟨v', h1, own_int.2 h2, h3⟩
end Go.Proofs.YtbkhcdmmnlkhdaaGreat
