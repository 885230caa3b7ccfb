/- A key put at a place among a stack's others, walked. -/
import Derived.Test.YteldbnelfeiifaaStkK
namespace Go.Proofs.Yteldbnelfeiifaa
open Go.RowKit Go.Proofs.YteldbnelfeiifaaW.PrintWords
set_option linter.unusedSimpArgs false
set_option linter.unusedVariables false
set_option maxRecDepth 1000000
attribute [local go_sem high] eqK eqKS
theorem sl_InsertS (p q : Nat) (l a b : List K2) (k : K2) (A : Option Addr) (c n i : Nat) (w : World) (hn : l.length = n) (hz : n ≤ 10000) (hi : a.length = i) (hl : l = a ++ b) (hp : w.heap[p]? = some (.cells #[.slice A l.length c] 102 (0, 0))) (HO : OwnK w (p + 1) 62 (.slice A l.length c) l) (hnd : (a ++ ([k] ++ b)).Nodup)
    (hq : w.heap[q]? = some (.cells #[.int .i64 k.c, .int .i64 k.i] 62 (0, 0))) (hqA : ∀ ad, A = some ad → ad.block ≠ q) :
    Calls Try.prog 82 #[.slice A n c, .int .i64 i, .slice (some ⟨q, 0, none⟩) 1 1] w (PutP w p (.slice A l.length c) (a ++ ([k] ++ b))) := by
  by_cases hb : b.length = 0
  · obtain rfl := List.eq_nil_of_length_eq_zero hb
    rw [List.append_nil] at hl
    subst hl
    rw [show i = n by omega]
    have := sl_InsertTop p q l k A c n w hn hz hp HO (by simpa using hnd) hq
    simpa using this
  · have hlen : l.length = i + b.length := by rw [hl, List.length_append, hi]
    obtain ⟨g, cap, rest, hv, hbg, hh, h1, h2, h3⟩ := HO.form (by omega)
    injection hv with hv1 _ hv2
    subst hv1 hv2
    have hqg : q ≠ g := fun e => hqA _ rfl e.symm
    have ef : flatK l ++ rest = flatK a ++ (flatK b ++ rest) := by rw [hl, flatK_append]; simp
    have hab : (a ++ ([k] ++ b)).length = n + 1 := by simp only [List.length_append, List.length_singleton, hi]; omega
    have efl := flatK_len (a ++ ([k] ++ b))
    have efk : flatK (a ++ ([k] ++ b)) = flatK a ++ (flatK [k] ++ flatK b) := by rw [flatK_append, flatK_append]
    by_cases hcn : n + 1 ≤ c
    · have hI := sl_InsertRoom g q c i n b.length a b k rest w hi rfl (by omega) (by omega) hcn h2 (by rw [← ef]; exact hh) (by rw [← ef]; exact h3) hq hqg
      refine hI.mono fun e w' hd => ?_
      obtain ⟨rfl, hgr, T, hT, hg2⟩ := hd
      have hO2 : OwnK w' (p + 1) 62 (.slice (some ⟨g, 0, none⟩) (a ++ ([k] ++ b)).length c) (a ++ ([k] ++ b)) :=
        OwnK.mk hbg (rest := T) (by rw [efk]; simpa using hg2) (by omega) h2 (by rw [efk]; simpa using hT)
      have hblk := Stk.block3 hp HO hgr
      exact ⟨some ⟨g, 0, none⟩, c, (a ++ ([k] ++ b)).length, by rw [hab], cell_one hblk, blk_frozen hblk 0, Stk.update hp HO hgr hO2 (.inl rfl) hnd⟩
    · obtain rfl : c = n := by omega
      have hI := sl_InsertGrow g q i c b.length a b k rest w hi rfl (by omega) (by omega) hz (by rw [← ef]; exact hh) hq hqg
      refine hI.mono fun e w' hd => ?_
      obtain ⟨cap, rfl, hc1, hc2, hgr, T, hT, hg2⟩ := hd
      have hlt := blk_lt hp
      have hO2 : OwnK w' (p + 1) 62 (.slice (some ⟨w.heap.size, 0, none⟩) (a ++ ([k] ++ b)).length cap) (a ++ ([k] ++ b)) :=
        OwnK.mk (by omega) (rest := T) (by rw [efk]; simpa using hg2) (by omega) hc2 (by rw [efk]; simpa using hT)
      have hgr' : w.grownBy w' (Value.slice (some ⟨g, 0, none⟩) l.length c).ownBlock := ⟨hgr.os, hgr.tape, hgr.output, hgr.size, fun j hj _ => hgr.block j hj (fun e => by cases e)⟩
      have hblk := Stk.block3 hp HO hgr'
      exact ⟨some ⟨w.heap.size, 0, none⟩, cap, (a ++ ([k] ++ b)).length, by rw [hab], cell_one hblk, blk_frozen hblk 0, Stk.update hp HO hgr' hO2 (.inr ⟨_, rfl, Nat.le_refl _⟩) hnd⟩
end Go.Proofs.Yteldbnelfeiifaa
