
/- A good request is asked for; plain. -/
import Derived.Test.YtinnaiofgbjicaaDoorTitA
namespace Go.Proofs.YtinnaiofgbjicaaDoor
open Go.RowKit
set_option linter.unusedSimpArgs false
set_option linter.unusedVariables false
set_option maxRecDepth 1000000
/-! ### What is cleaned is a title -/
/-- A number that is a sign, and not odd. -/
def OkR (r : Nat) : Prop := oddN r = false ∧ (r < 55296 ∨ (57344 ≤ r ∧ r ≤ 1114111))
theorem get_of {s : ByteArray} {i : Nat} {x : UInt8} (h : s.data.toList[i]? = some x) : s.get! i = x := by
  have hi : i < s.size := by
    rw [← size_list]; exact (List.getElem?_eq_some_iff.1 h).1
  obtain ⟨y, h1, h2⟩ := get_list hi
  rw [h] at h1; rw [h2]; exact (Option.some.inj h1).symm
theorem take_get {l m r : List UInt8} {i : Nat} (h : l.drop i = m ++ r) (j : Nat) (hj : j < m.length) : l[i + j]? = m[j]? := by
  have := congrArg (fun x => x[j]?) h
  simp only [List.getElem?_drop] at this
  rw [this, List.getElem?_append_left hj]
theorem dec_enc {s : ByteArray} {i r : Nat} {rest : List UInt8} (hr : r < 55296 ∨ (57344 ≤ r ∧ r ≤ 1114111)) (h : s.data.toList.drop i = Lib.encodeRune (r : Int) ++ rest) : sg s i = (r, (Lib.encodeRune (r : Int)).length) ∧ (r = 65533 → 2 ≤ (Lib.encodeRune (r : Int)).length) := by
  have hlen : (Lib.encodeRune (r : Int)).length ≤ s.size - i := by
    have := congrArg List.length h
    rw [List.length_drop, size_list, List.length_append] at this; omega
  have hg : ∀ j x, (Lib.encodeRune (r : Int))[j]? = some x → s.get! (i + j) = x := fun j x hx => get_of (by rw [take_get h j (List.getElem?_eq_some_iff.1 hx).1, hx])
  have hnat : ∀ z : Int, 0 ≤ z → z < 256 → (z.toNat.toUInt8).toNat = z.toNat := fun z h1 h2 => by simp; omega
  unfold sg
  rw [Lib.decode_at]
  unfold Lib.encodeRune at hg hlen ⊢
  by_cases c1 : r ≤ 127
  · rw [Lib.encodeRuneZ_one (by omega) (by omega)] at hg hlen ⊢
    have g0 := hg 0 _ rfl
    simp only [List.map_cons, List.map_nil, List.length_cons, List.length_nil, Nat.add_zero] at g0 hlen ⊢
    rw [g0, hnat _ (by omega) (by omega)]
    unfold Lib.decodeN
    rw [if_pos (by omega)]
    refine ⟨Prod.ext (by simp) rfl, fun e => by omega⟩
  · by_cases c2 : r ≤ 2047
    · rw [Lib.encodeRuneZ_two (by omega) (by omega)] at hg hlen ⊢
      have g0 := hg 0 _ rfl
      have g1 := hg 1 _ rfl
      simp only [List.map_cons, List.map_nil, List.length_cons, List.length_nil, Nat.add_zero] at g0 g1 hlen ⊢
      rw [g0, g1, hnat _ (by omega) (by omega), hnat _ (by omega) (by omega)]
      unfold Lib.decodeN
      rw [if_neg (by omega), if_pos (by omega), if_pos (by omega)]
      refine ⟨Prod.ext (by simp only; omega) rfl, fun e => by omega⟩
    · by_cases c3 : r ≤ 65535
      · rw [Lib.encodeRuneZ_three (by omega)] at hg hlen ⊢
        have g0 := hg 0 _ rfl
        have g1 := hg 1 _ rfl
        have g2 := hg 2 _ rfl
        simp only [List.map_cons, List.map_nil, List.length_cons, List.length_nil, Nat.add_zero] at g0 g1 g2 hlen ⊢
        rw [g0, g1, g2, hnat _ (by omega) (by omega), hnat _ (by omega) (by omega), hnat _ (by omega) (by omega)]
        unfold Lib.decodeN
        rw [if_neg (by omega), if_neg (by omega), if_pos (by omega), if_pos (by omega)]
        refine ⟨Prod.ext (by simp only; omega) rfl, fun e => by omega⟩
      · rw [Lib.encodeRuneZ_four (by omega) (by omega)] at hg hlen ⊢
        have g0 := hg 0 _ rfl
        have g1 := hg 1 _ rfl
        have g2 := hg 2 _ rfl
        have g3 := hg 3 _ rfl
        simp only [List.map_cons, List.map_nil, List.length_cons, List.length_nil, Nat.add_zero] at g0 g1 g2 g3 hlen ⊢
        rw [g0, g1, g2, g3, hnat _ (by omega) (by omega), hnat _ (by omega) (by omega), hnat _ (by omega) (by omega), hnat _ (by omega) (by omega)]
        unfold Lib.decodeN
        rw [if_neg (by omega), if_neg (by omega), if_neg (by omega), if_pos (by omega), if_pos (by omega)]
        refine ⟨Prod.ext (by simp only; omega) rfl, fun e => by omega⟩
/-- The signs of numbers that are signs are these. -/
theorem signs_of {s : ByteArray} : ∀ (rs : List Nat) (f i : Nat), (∀ r ∈ rs, OkR r) → s.data.toList.drop i = rs.flatMap (fun r : Nat => Lib.encodeRune (r : Int)) → s.size - i ≤ f → (posF f s i).length = rs.length ∧ ∀ j ∈ posF f s i, badAt s j = false
  | [], f, i, _, h, _ => by
    have : ¬ i < s.size := by
      have := congrArg List.length h
      rw [List.length_drop, size_list] at this; simp at this; omega
    rw [posF_end _ _ _ this]; exact ⟨rfl, fun j hj => by cases hj⟩
  | r :: rs, f, i, ho, h, hf => by
    obtain ⟨h1, h2⟩ := ho r (List.mem_cons_self ..)
    rw [List.flatMap_cons] at h
    obtain ⟨hd, h65⟩ := dec_enc h2 h
    have hp := sg_pos s i
    have hi : i < s.size := by
      have := congrArg List.length h
      rw [List.length_drop, size_list, List.length_append] at this
      rw [hd] at hp; simp only at hp; omega
    have hb : badAt s i = false := by
      unfold badAt
      rw [hd, h1]
      unfold brk
      simp only [Bool.false_or, decide_eq_false_iff_not]
      rintro ⟨e, e2⟩
      have := h65 e; omega
    obtain ⟨f, rfl⟩ : ∃ g, f = g + 1 := ⟨f - 1, by omega⟩
    have hdr : s.data.toList.drop (i + (sg s i).2) = rs.flatMap (fun r : Nat => Lib.encodeRune (r : Int)) := by
      rw [← List.drop_drop, h, hd, List.drop_left]
    obtain ⟨h3, h4⟩ := signs_of rs f (i + (sg s i).2) (fun x hx => ho x (List.mem_cons_of_mem _ hx)) hdr (by omega)
    simp only [posF, if_pos hi, List.length_cons, List.mem_cons, forall_eq_or_imp]
    exact ⟨by rw [h3], hb, h4⟩
theorem sg_scalar {s : ByteArray} {i : Nat} (hb : badAt s i = false) : (sg s i).1 < 55296 ∨ (57344 ≤ (sg s i).1 ∧ (sg s i).1 ≤ 1114111) := by
  unfold sg
  rw [Lib.decode_at]
  have h0 := UInt8.toNat_lt (s.get! i); have h1 := UInt8.toNat_lt (s.get! (i + 1)); have h2 := UInt8.toNat_lt (s.get! (i + 2)); have h3 := UInt8.toNat_lt (s.get! (i + 3))
  generalize (s.get! i).toNat = d0 at *
  generalize (s.get! (i + 1)).toNat = d1 at *
  generalize (s.get! (i + 2)).toNat = d2 at *
  generalize (s.get! (i + 3)).toNat = d3 at *
  unfold Lib.decodeN
  repeat' split
  all_goals (simp only; omega)
def outN (s : ByteArray) (i : Nat) : Nat := if badAt s i then 63 else (sg s i).1
theorem outN_ok (s : ByteArray) (i : Nat) : OkR (outN s i) := by
  unfold outN
  cases hb : badAt s i
  · have := sg_scalar hb
    unfold badAt at hb
    simp only [Bool.or_eq_false_iff] at hb
    exact ⟨hb.1, this⟩
  · rw [if_pos rfl]; exact ⟨by decide, by omega⟩
theorem mayT_clean (s : ByteArray) : mayT (cleanP s) = true := by
  have hl : (cleanP s).data.toList = (((poss s).take 64).map (outN s)).flatMap (fun r : Nat => Lib.encodeRune (r : Int)) := by
    unfold cleanP outL
    rw [List.toList_toArray, List.flatMap_map]
    congr 1
    funext i
    unfold outR outN
    split <;> rfl
  obtain ⟨h1, h2⟩ := signs_of (s := cleanP s) (((poss s).take 64).map (outN s)) (cleanP s).size 0 (fun r hr => by obtain ⟨i, _, rfl⟩ := List.mem_map.1 hr; exact outN_ok s i) (by rw [List.drop_zero, hl]) (by omega)
  unfold mayT
  rw [decide_eq_true_iff]
  exact ⟨by unfold poss; rw [h1, List.length_map, List.length_take]; omega, h2⟩
end Go.Proofs.YtinnaiofgbjicaaDoor
