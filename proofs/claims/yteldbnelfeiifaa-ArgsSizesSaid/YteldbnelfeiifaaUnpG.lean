/- The law ArgsSizes, walked. -/
import Derived.Test.YteldbnelfeiifaaUnpF
namespace Go.Proofs.Yteldbnelfeiifaa
open Go.RowKit Go.Proofs.YteldbnelfeiifaaW.PrintWords
set_option linter.unusedSimpArgs false
set_option linter.unusedVariables false
set_option maxRecDepth 1000000
def fixP (f : ByteArray) : Bool := formP f && noSB f f.size
def sizeP (f : ByteArray) : Int := if fixP f = true then 4 * ((f.size : Int) + 3 * (cntR f : Int)) else 0
theorem cntR_le (f : ByteArray) : cntR f ≤ f.size := by unfold cntR Lib.countByte; exact List.count_le_length
theorem args_Size (f : ByteArray) (w : World) (hz : f.size ≤ 140737488351232) : Calls Try.prog 53 #[.string f] w fun e w' => e = .returned (.tuple #[.int .i64 (sizeP f), .bool (fixP f)]) ∧ Below w.heap.size w w' := by
  have cf := fun w => args_Form f w hz
  cases hf : formP f
  · have H := Lib.hid (show sizeP f = 0 ∧ fixP f = false from by unfold sizeP fixP; simp [hf])
    rw [hf] at cf
    go_enter Try.func53, Try.ntmps53
    go_wp2_with (first | (go_at_call 20; (with_reducible refine (cf _).mono ?_); rintro e w1 ⟨rfl, hb1⟩; obtain ⟨hc1, hf1⟩ := bcell hb1; have hz1 := hb1.size; (try simp only [World.size_alloc, World.size_setCell, World.size_drew] at hz1)))
    go_ret2
    exact ⟨by rw [H.out.1, H.out.2]; rfl, hb1⟩
  · have cA := fun w => str_ContainsAny f w hf
    have cC := fun w => str_Count f w
    have h8 := formP_le hf
    have hcl := cntR_le f
    rw [hf] at cf
    cases hn : noSB f f.size
    · have H := Lib.hid (show sizeP f = 0 ∧ fixP f = false from by unfold sizeP fixP; simp [hn])
      rw [hn] at cA
      simp only [Bool.not_false] at cA
      go_enter Try.func53, Try.ntmps53
      go_wp2_with (first | (go_at_call 20; (with_reducible refine (cf _).mono ?_); rintro e w1 ⟨rfl, hb1⟩; obtain ⟨hc1, hf1⟩ := bcell hb1; have hz1 := hb1.size; (try simp only [World.size_alloc, World.size_setCell, World.size_drew] at hz1)) | (go_at_call 76; (with_reducible refine (cA _).mono ?_); rintro e w2 ⟨rfl, hb2⟩; have hz2 := hb2.size))
      go_ret2
      exact ⟨by rw [H.out.1, H.out.2]; rfl, by (repeat (first | (with_reducible exact Below.refl _ _) | ((with_reducible refine Below.alloc ?_ ?hB _); (case hB => (first | omega | (simp; done) | (simp; omega)))) | ((with_reducible refine Below.setCell ?_ ?hB _); (case hB => (first | omega | (simp; done) | (simp; omega)))) | (with_reducible refine Below.drew ?_) | ((with_reducible refine below_ext_of ?_ ?hB); (case hB => (first | omega | (simp; done) | (simp; omega)))) | ((with_reducible refine Below.trans ?_ (Below.mono (by assumption) ?hB)); (case hB => (first | omega | (simp; done) | (simp; omega))))))⟩
    · have H := Lib.hid (show sizeP f = 4 * ((f.size : Int) + 3 * (cntR f : Int)) ∧ fixP f = true from by
        have : fixP f = true := by unfold fixP; simp [hf, hn]
        exact ⟨by unfold sizeP; rw [if_pos this], this⟩)
      rw [hn] at cA
      simp only [Bool.not_true] at cA
      obtain ⟨q, hq⟩ : ∃ q, cntR f = q := ⟨_, rfl⟩
      rw [hq] at cC hcl H
      clear hq
      go_enter Try.func53, Try.ntmps53
      go_wp2_with (first | (go_at_call 20; (with_reducible refine (cf _).mono ?_); rintro e w1 ⟨rfl, hb1⟩; obtain ⟨hc1, hf1⟩ := bcell hb1; have hz1 := hb1.size; (try simp only [World.size_alloc, World.size_setCell, World.size_drew] at hz1)) | (go_at_call 76; (with_reducible refine (cA _).mono ?_); rintro e w2 ⟨rfl, hb2⟩; have hz2 := hb2.size) | (go_at_call 77; (with_reducible refine (cC _).mono ?_); rintro e w1 ⟨rfl, rfl⟩))
      go_ret2
      exact ⟨by rw [H.out.1, H.out.2]; rfl, by (repeat (first | (with_reducible exact Below.refl _ _) | ((with_reducible refine Below.alloc ?_ ?hB _); (case hB => (first | omega | (simp; done) | (simp; omega)))) | ((with_reducible refine Below.setCell ?_ ?hB _); (case hB => (first | omega | (simp; done) | (simp; omega)))) | (with_reducible refine Below.drew ?_) | ((with_reducible refine below_ext_of ?_ ?hB); (case hB => (first | omega | (simp; done) | (simp; omega)))) | ((with_reducible refine Below.trans ?_ (Below.mono (by assumption) ?hB)); (case hB => (first | omega | (simp; done) | (simp; omega))))))⟩
theorem count_take (f : ByteArray) (k : Nat) (h : k < f.size) : Lib.countByte (f.data.toList.take (k + 1)) 114 = Lib.countByte (f.data.toList.take k) 114 + (if byN f k = 114 then 1 else 0) := by
  have hk : k < f.data.toList.length := by simpa using h
  unfold Lib.countByte
  rw [List.take_succ_eq_append_getElem hk, List.count_append, List.count_singleton]
  congr 1
  have e : byN f k = ((f.data.toList[k]).toNat : Int) := by rw [← byN_at f k h]; rfl
  rw [e]
  by_cases h2 : f.data.toList[k] = 114
  · rw [h2]; rfl
  · have h3 : ¬ (((f.data.toList[k]).toNat : Int) = 114) := fun h4 => h2 (by
      apply UInt8.toNat_inj.1
      have : (f.data.toList[k]).toNat = 114 := by omega
      rw [this]; rfl)
    rw [if_neg h3]; simpa using h2
theorem good_len (c : Int) (y : V8) (hc : letC c) (h : ¬ c = 115 ∧ ¬ c = 98) : ((putB (goodX c y)).length : Int) = 4 * (1 + 3 * (if c = 114 then 1 else 0)) := by
  rcases hc with rfl | rfl | rfl | rfl | rfl
  · have e : goodX 105 y = { v0 with n := tm y.n } := by unfold goodX; rw [if_pos rfl]
    rw [e, putB0 rfl]; simp [b4]
  · have e : goodX 117 y = { v0 with n := max (tm y.n) (-tm y.n) } := by unfold goodX; rw [if_neg (by decide), if_pos rfl]
    rw [e, putB0 rfl]; simp [b4]
  · exact absurd rfl h.1
  · have e : goodX 114 y = { v0 with kind := 2, x0 := tm y.x0, y0 := tm y.y0, x1 := tm y.x1, y1 := tm y.y1 } := by unfold goodX; rw [if_neg (by decide), if_neg (by decide), if_neg (by decide), if_pos rfl]
    rw [e, putB2 rfl]; rfl
  · exact absurd rfl h.2
theorem cat_size (g : ByteArray) (l1 : List V8) (hf : formP g = true) : ∀ k, k ≤ g.size → noSB g k = true → ((catB (goodL g l1) k).length : Int) = 4 * ((k : Int) + 3 * (Lib.countByte (g.data.toList.take k) 114 : Int))
  | 0, _, _ => by simp [catB, Lib.countByte]
  | k + 1, hk, hn => by
    rw [noSB_succ] at hn
    simp only [Bool.and_eq_true, decide_eq_true_iff] at hn
    have ih := cat_size g l1 hf k (by omega) hn.1
    have hl := good_len (byN g k) (at8 l1 k) (formP_at hf (by omega)).1 hn.2
    rw [count_take g k (by omega)]
    show ((catB (goodL g l1) k ++ putB (at8 (goodL g l1) k)).length : Int) = _
    rw [at8_good g l1 k (by omega), List.length_append]
    push_cast
    split at hl <;> simp_all <;> omega
theorem size_good (g : ByteArray) (l1 : List V8) (hf : formP g = true) (hn : noSB g g.size = true) : sizeP g = ((catB (goodL g l1) g.size).length : Int) := by
  have := cat_size g l1 hf g.size (Nat.le_refl _) hn
  rw [this]
  unfold sizeP fixP cntR
  rw [hf, hn]
  have e : g.data.toList.take g.size = g.data.toList := List.take_of_length_le (by simp)
  rw [e]; rfl
end Go.Proofs.Yteldbnelfeiifaa
