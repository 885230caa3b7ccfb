/- Keys, and rows of keys, read; a key's place, sameness of rows, walked. -/
import Derived.Test.YteldbnelfeiifaaProg
import Derived.Test.YteldbnelfeiifaaTail
import Derived.Test.YteldbnelfeiifaaWWords
namespace Go.Proofs.Yteldbnelfeiifaa
open Go.RowKit Go.Proofs.YteldbnelfeiifaaW.PrintWords
set_option linter.unusedSimpArgs false
set_option linter.unusedVariables false
set_option maxRecDepth 1000000
structure K2 where
  c : Int
  i : Int
deriving DecidableEq
def kEq (a b c d : Int) : Bool := decide (a = c ∧ b = d)
theorem eqK (d : Nat) (w : World) (x0 x1 y0 y1 : Int) : (Op.equalIn (d + 2) 56 (.agg #[.int .i64 (x0), .int .i64 (x1)]) (.agg #[.int .i64 (y0), .int .i64 (y1)])).run Try.prog w = .ok (kEq x0 x1 y0 y1) w := by
  have e : kEq x0 x1 y0 y1 = (x0 == y0 && (x1 == y1 && true)) := by
    rw [Bool.eq_iff_iff]; simp [kEq]
  rw [e]
  refine eqA_of Try.underlying56 (by kernel_rfl) ?_
  refine eqf_cons (by rfl) (by go_simp; rfl) (by go_simp; rfl) (by go_simp) ?_
  refine eqf_cons (by rfl) (by go_simp; rfl) (by go_simp; rfl) (by go_simp) ?_
  exact eqf_nil
theorem eqKS (d : Nat) (w : World) (x0 x1 y0 y1 : Int) : (Op.equalIn (d + 2) 62 (.agg #[.int .i64 (x0), .int .i64 (x1)]) (.agg #[.int .i64 (y0), .int .i64 (y1)])).run Try.prog w = .ok (kEq x0 x1 y0 y1) w := by
  have e : kEq x0 x1 y0 y1 = (x0 == y0 && (x1 == y1 && true)) := by
    rw [Bool.eq_iff_iff]; simp [kEq]
  rw [e]
  refine eqA_of Try.underlying62 (by kernel_rfl) ?_
  refine eqf_cons (by rfl) (by go_simp; rfl) (by go_simp; rfl) (by go_simp) ?_
  refine eqf_cons (by rfl) (by go_simp; rfl) (by go_simp; rfl) (by go_simp) ?_
  exact eqf_nil
attribute [local go_sem high] eqK eqKS
theorem kEq_iff (x y : K2) : kEq x.c x.i y.c y.i = decide (x = y) := by
  cases x; cases y; simp [kEq]
def k0 : K2 := ⟨0, 0⟩
def atK (l : List K2) (i : Nat) : K2 := l.getD i k0
theorem atK_get {l : List K2} {i : Nat} (h : i < l.length) : atK l i = l[i] := by unfold atK; rw [List.getD_eq_getElem?_getD, List.getElem?_eq_getElem h]; rfl
/-- A row of keys, read. -/
def KRow (w : World) (A : Option Addr) (l : List K2) : Prop := ∀ i, i < l.length → ∃ ad, A = some ad ∧
  w.cell? (ad.add (i * 2)) = some (.int .i64 (atK l i).c) ∧ w.cell? ⟨(ad.add (i * 2)).block, (ad.add (i * 2)).off + 1, none⟩ = some (.int .i64 (atK l i).i)
theorem KRow.below {w w1 : World} {A : Option Addr} {l : List K2} (h : KRow w A l) (hb : Below w.heap.size w w1) : KRow w1 A l := by
  intro i hi
  obtain ⟨ad, rfl, h0, h1⟩ := h i hi
  exact ⟨ad, rfl, pw_cell_below hb h0, pw_cell_below hb h1⟩
theorem KRow.nil (w : World) (A : Option Addr) : KRow w A [] := fun i hi => by simp at hi
/-- A key's place. -/
def atP (l : List K2) (k : K2) : Int := if k ∈ l then (l.idxOf k : Int) else -1
theorem atP_here {l : List K2} {k : K2} {j : Nat} (hj : j < l.length) (hn : ∀ i, i < j → atK l i ≠ k) (he : atK l j = k) : atP l k = j := by
  rw [atK_get hj] at he
  have hm : k ∈ l := by rw [← he]; exact List.getElem_mem _
  unfold atP; rw [if_pos hm]
  have h1 : l.idxOf k ≤ j := by
    rcases Nat.lt_or_ge j (l.idxOf k) with h | h
    · exact absurd he (by have := List.not_of_lt_findIdx (p := (· == k)) (xs := l) (i := j) h; simpa using this)
    · exact h
  have h2 : l.idxOf k < l.length := List.idxOf_lt_length_iff.2 hm
  have h3 : l[l.idxOf k] = k := List.getElem_idxOf h2
  rcases Nat.lt_or_ge (l.idxOf k) j with h | h
  · exact absurd (by rw [atK_get h2]; exact h3) (hn _ h)
  · congr 1; omega
theorem atP_none {l : List K2} {k : K2} (hn : ∀ i, i < l.length → atK l i ≠ k) : atP l k = -1 := by
  unfold atP; rw [if_neg]
  intro hm
  have h2 : l.idxOf k < l.length := List.idxOf_lt_length_iff.2 hm
  exact hn _ h2 (by rw [atK_get h2]; exact List.getElem_idxOf h2)
theorem atP_bd (l : List K2) (k : K2) : -1 ≤ atP l k ∧ atP l k < l.length := by
  unfold atP; split
  · have := List.idxOf_lt_length_iff.2 ‹k ∈ l›; omega
  · omega
theorem atP_neg {l : List K2} {k : K2} : atP l k < 0 ↔ k ∉ l := by
  unfold atP; split <;> simp [*]
theorem ne_step {l : List K2} {k : K2} {j : Nat} (h : ∀ i, i < j → atK l i ≠ k) (hj : atK l j ≠ k) : ∀ i, i < j + 1 → atK l i ≠ k := fun i hi => by
  by_cases e : i = j
  · subst e; exact hj
  · exact h i (by omega)
theorem ref_At (A : Option Addr) (l : List K2) (cap : Nat) (k : K2) (w : World) (hz : l.length ≤ 9223372036854775807) (hr : KRow w A l) : Calls Try.prog 47 #[.slice A l.length cap, (.agg #[.int .i64 (k).c, .int .i64 (k).i])] w fun e w' => e = .returned (.int .i64 (atP l k)) ∧ Below w.heap.size w w' := by
  go_enter Try.func47, Try.ntmps47
  go_wp2
  go_loopw [5] (fun i wr => ∃ j : Nat, j ≤ l.length ∧ i = .int .i64 j ∧ Hid (∀ i, i < j → atK l i ≠ k) ∧ Below (w.alloc (.cells #[.int .i64 k.c, .int .i64 k.i] 56)).heap.size (w.alloc (.cells #[.int .i64 k.c, .int .i64 k.i] 56)) wr) (fun i _ => l.length - (intOf i).toNat)
  case atStart => exact ⟨0, by omega, rfl, Lib.hid (fun i hi => by omega), by (repeat (first | (with_reducible exact Below.refl _ _) | ((with_reducible refine Below.alloc ?_ ?hB _); (case hB => (first | omega | (simp; done) | (simp; omega)))) | ((with_reducible refine Below.setCell ?_ ?hB _); (case hB => (first | omega | (simp; done) | (simp; omega)))) | (with_reducible refine Below.drew ?_) | ((with_reducible refine below_ext_of ?_ ?hB); (case hB => (first | omega | (simp; done) | (simp; omega)))) | ((with_reducible refine Below.trans ?_ (Below.mono (by assumption) ?hB)); (case hB => (first | omega | (simp; done) | (simp; omega))))))⟩
  case round =>
    obtain ⟨j, hj, rfl, hne, hbr⟩ := hrel
    have hzr := hbr.size
    simp only [World.size_alloc] at hzr
    obtain ⟨hcr, hfr⟩ := bcell hbr
    by_cases hlt : j < l.length
    · obtain ⟨ad, rfl, f0, f1⟩ := hr j hlt; have g0 := pw_cell_below (((Below.refl _ _).alloc (Nat.le_refl _) _).trans (hbr.mono (by simp))) f0; have g1 := pw_cell_below (((Below.refl _ _).alloc (Nat.le_refl _) _).trans (hbr.mono (by simp))) f1; clear f0 f1
      by_cases he : atK l j = k
      · have HR := Lib.hid (atP_here hlt hne.out he)
        rw [he] at g0 g1
        have ek : kEq k.c k.i k.c k.i = true := by rw [kEq_iff]; simp
        clear he hne hr
        go_wp2
        have gx0 := fun x => pw_cell_below (below_ext wr x) g0
        have gx1 := fun x => pw_cell_below (below_ext wr x) g1
        (refine wp_region_ext_lit (by kernel_rfl) (by kernel_rfl) ?_; (repeat (go_big_quiet_step ((fail)))); refine wpQuiet_nil ?_; intro w2 hb_w2; obtain ⟨hc_w2, hf_w2⟩ := bcell hb_w2; have hz_w2 := hb_w2.size; (try simp only [World.size_alloc, World.size_setCell, World.size_drew] at hz_w2))
        have g0 := pw_cell_below hb_w2 g0
        have g1 := pw_cell_below hb_w2 g1
        go_wp2
        (go_ret; refine ⟨?_, by (repeat (first | (with_reducible exact Below.refl _ _) | ((with_reducible refine Below.alloc ?_ ?hB _); (case hB => (first | omega | (simp; done) | (simp; omega)))) | ((with_reducible refine Below.setCell ?_ ?hB _); (case hB => (first | omega | (simp; done) | (simp; omega)))) | (with_reducible refine Below.drew ?_) | ((with_reducible refine below_ext_of ?_ ?hB); (case hB => (first | omega | (simp; done) | (simp; omega)))) | ((with_reducible refine Below.trans ?_ (Below.mono (by assumption) ?hB)); (case hB => (first | omega | (simp; done) | (simp; omega))))))⟩); rw [HR.out]; rfl
      · have HN := Lib.hid (ne_step hne.out he)
        have ek : kEq (atK l j).c (atK l j).i k.c k.i = false := by rw [kEq_iff]; simp [he]
        clear he hne hr
        generalize atK l j = x at *
        go_wp2
        have gx0 := fun x => pw_cell_below (below_ext wr x) g0
        have gx1 := fun x => pw_cell_below (below_ext wr x) g1
        (refine wp_region_ext_lit (by kernel_rfl) (by kernel_rfl) ?_; (repeat (go_big_quiet_step ((fail)))); refine wpQuiet_nil ?_; intro w2 hb_w2; obtain ⟨hc_w2, hf_w2⟩ := bcell hb_w2; have hz_w2 := hb_w2.size; (try simp only [World.size_alloc, World.size_setCell, World.size_drew] at hz_w2))
        have g0 := pw_cell_below hb_w2 g0
        have g1 := pw_cell_below hb_w2 g1
        go_wp2
        go_roundw
        case rel => exact ⟨j + 1, by omega, by go_num, HN, by (repeat (first | (with_reducible exact Below.refl _ _) | ((with_reducible refine Below.alloc ?_ ?hB _); (case hB => (first | omega | (simp; done) | (simp; omega)))) | ((with_reducible refine Below.setCell ?_ ?hB _); (case hB => (first | omega | (simp; done) | (simp; omega)))) | (with_reducible refine Below.drew ?_) | ((with_reducible refine below_ext_of ?_ ?hB); (case hB => (first | omega | (simp; done) | (simp; omega)))) | ((with_reducible refine Below.trans ?_ (Below.mono (by assumption) ?hB)); (case hB => (first | omega | (simp; done) | (simp; omega))))))⟩
        case measure => simp [intOf]; omega
    · obtain rfl : j = l.length := by omega
      have HR := Lib.hid (atP_none hne.out)
      clear hne
      go_wp2
      (go_ret; refine ⟨?_, by (repeat (first | (with_reducible exact Below.refl _ _) | ((with_reducible refine Below.alloc ?_ ?hB _); (case hB => (first | omega | (simp; done) | (simp; omega)))) | ((with_reducible refine Below.setCell ?_ ?hB _); (case hB => (first | omega | (simp; done) | (simp; omega)))) | (with_reducible refine Below.drew ?_) | ((with_reducible refine below_ext_of ?_ ?hB); (case hB => (first | omega | (simp; done) | (simp; omega)))) | ((with_reducible refine Below.trans ?_ (Below.mono (by assumption) ?hB)); (case hB => (first | omega | (simp; done) | (simp; omega))))))⟩); rw [HR.out]; rfl

theorem ref_Same (A B : Option Addr) (l m : List K2) (c d : Nat) (w : World) (hz : l.length ≤ 9223372036854775807) (hm : m.length ≤ 9223372036854775807) (hr : KRow w A l) (hs : KRow w B m) : Calls Try.prog 37 #[.slice A l.length c, .slice B m.length d] w fun e w' => e = .returned (.bool (decide (l = m))) ∧ Below w.heap.size w w' := by
  by_cases hl : l.length = m.length
  · go_enter Try.func37, Try.ntmps37
    have HL := Lib.hid hl
    have e0 : ((l.length : Int) != (m.length : Int)) = false := by simp [hl]
    clear hl
    go_wp2
    go_loopw [5] (fun i wr => ∃ j : Nat, j ≤ l.length ∧ i = .int .i64 j ∧ Hid (∀ i, i < j → atK l i = atK m i) ∧ Below w.heap.size w wr) (fun i _ => l.length - (intOf i).toNat)
    case atStart => exact ⟨0, by omega, rfl, Lib.hid (fun i hi => by omega), by (repeat (first | (with_reducible exact Below.refl _ _) | ((with_reducible refine Below.alloc ?_ ?hB _); (case hB => (first | omega | (simp; done) | (simp; omega)))) | ((with_reducible refine Below.setCell ?_ ?hB _); (case hB => (first | omega | (simp; done) | (simp; omega)))) | (with_reducible refine Below.drew ?_) | ((with_reducible refine below_ext_of ?_ ?hB); (case hB => (first | omega | (simp; done) | (simp; omega)))) | ((with_reducible refine Below.trans ?_ (Below.mono (by assumption) ?hB)); (case hB => (first | omega | (simp; done) | (simp; omega))))))⟩
    case round =>
      obtain ⟨j, hj, rfl, hne, hbr⟩ := hrel
      have hzr := hbr.size
      by_cases hlt : j < l.length
      · have hlm : j < m.length := by rw [← HL.out]; exact hlt
        obtain ⟨ad, rfl, f0, f1⟩ := hr j hlt
        obtain ⟨ae, rfl, p0, p1⟩ := hs j hlm
        have g0 := pw_cell_below hbr f0; have g1 := pw_cell_below hbr f1
        have q0 := pw_cell_below hbr p0; have q1 := pw_cell_below hbr p1
        have gx0 := fun x => pw_cell_below (below_ext wr x) g0
        have gx1 := fun x => pw_cell_below (below_ext wr x) g1
        have qx0 := fun x => pw_cell_below (below_ext wr x) q0
        have qx1 := fun x => pw_cell_below (below_ext wr x) q1
        clear f0 f1 p0 p1 hr hs
        by_cases he : atK l j = atK m j
        · have HN := Lib.hid (show ∀ i, i < j + 1 → atK l i = atK m i from fun i hi => by
            by_cases e : i = j
            · subst e; exact he
            · exact hne.out i (by omega))
          rw [← he] at q0 q1 qx0 qx1
          have ek : kEq (atK l j).c (atK l j).i (atK l j).c (atK l j).i = true := by rw [kEq_iff]; simp
          clear he hne
          generalize atK l j = x at *
          go_wp2
          (refine wp_region_ext_lit (by kernel_rfl) (by kernel_rfl) ?_; (repeat (go_big_quiet_step ((fail)))); refine wpQuiet_nil ?_; intro w2 hb_w2; obtain ⟨hc_w2, hf_w2⟩ := bcell hb_w2; have hz_w2 := hb_w2.size; (try simp only [World.size_alloc, World.size_setCell, World.size_drew] at hz_w2))
          go_wp2
          go_roundw
          case rel => exact ⟨j + 1, by omega, by go_num, HN, by (repeat (first | (with_reducible exact Below.refl _ _) | ((with_reducible refine Below.alloc ?_ ?hB _); (case hB => (first | omega | (simp; done) | (simp; omega)))) | ((with_reducible refine Below.setCell ?_ ?hB _); (case hB => (first | omega | (simp; done) | (simp; omega)))) | (with_reducible refine Below.drew ?_) | ((with_reducible refine below_ext_of ?_ ?hB); (case hB => (first | omega | (simp; done) | (simp; omega)))) | ((with_reducible refine Below.trans ?_ (Below.mono (by assumption) ?hB)); (case hB => (first | omega | (simp; done) | (simp; omega))))))⟩
          case measure => simp [intOf]; omega
        · have ek : kEq (atK l j).c (atK l j).i (atK m j).c (atK m j).i = false := by rw [kEq_iff]; simp [he]
          have HR := Lib.hid (show decide (l = m) = false from by simp only [decide_eq_false_iff_not]; intro e; exact he (by rw [e]))
          clear he hne
          generalize atK l j = x at *
          generalize atK m j = y at *
          go_wp2
          (refine wp_region_ext_lit (by kernel_rfl) (by kernel_rfl) ?_; (repeat (go_big_quiet_step ((fail)))); refine wpQuiet_nil ?_; intro w2 hb_w2; obtain ⟨hc_w2, hf_w2⟩ := bcell hb_w2; have hz_w2 := hb_w2.size; (try simp only [World.size_alloc, World.size_setCell, World.size_drew] at hz_w2))
          go_wp2
          (go_ret; refine ⟨?_, by (repeat (first | (with_reducible exact Below.refl _ _) | ((with_reducible refine Below.alloc ?_ ?hB _); (case hB => (first | omega | (simp; done) | (simp; omega)))) | ((with_reducible refine Below.setCell ?_ ?hB _); (case hB => (first | omega | (simp; done) | (simp; omega)))) | (with_reducible refine Below.drew ?_) | ((with_reducible refine below_ext_of ?_ ?hB); (case hB => (first | omega | (simp; done) | (simp; omega)))) | ((with_reducible refine Below.trans ?_ (Below.mono (by assumption) ?hB)); (case hB => (first | omega | (simp; done) | (simp; omega))))))⟩); rw [HR.out]; rfl
      · obtain rfl : j = l.length := by omega
        have HR := Lib.hid (show decide (l = m) = true from by
          simp only [decide_eq_true_eq]
          refine List.ext_getElem HL.out fun i h1 h2 => ?_
          have := hne.out i h1
          rwa [atK_get h1, atK_get h2] at this)
        clear hne hr hs
        go_wp2
        (go_ret; refine ⟨?_, by (repeat (first | (with_reducible exact Below.refl _ _) | ((with_reducible refine Below.alloc ?_ ?hB _); (case hB => (first | omega | (simp; done) | (simp; omega)))) | ((with_reducible refine Below.setCell ?_ ?hB _); (case hB => (first | omega | (simp; done) | (simp; omega)))) | (with_reducible refine Below.drew ?_) | ((with_reducible refine below_ext_of ?_ ?hB); (case hB => (first | omega | (simp; done) | (simp; omega)))) | ((with_reducible refine Below.trans ?_ (Below.mono (by assumption) ?hB)); (case hB => (first | omega | (simp; done) | (simp; omega))))))⟩); rw [HR.out]; rfl
  · have HR := Lib.hid (show decide (l = m) = false from by simp only [decide_eq_false_iff_not]; intro e; exact hl (by rw [e]))
    have e0 : ((l.length : Int) != (m.length : Int)) = true := by simp; omega
    clear hl
    go_enter Try.func37, Try.ntmps37
    go_wp2
    (go_ret; refine ⟨?_, by (repeat (first | (with_reducible exact Below.refl _ _) | ((with_reducible refine Below.alloc ?_ ?hB _); (case hB => (first | omega | (simp; done) | (simp; omega)))) | ((with_reducible refine Below.setCell ?_ ?hB _); (case hB => (first | omega | (simp; done) | (simp; omega)))) | (with_reducible refine Below.drew ?_) | ((with_reducible refine below_ext_of ?_ ?hB); (case hB => (first | omega | (simp; done) | (simp; omega)))) | ((with_reducible refine Below.trans ?_ (Below.mono (by assumption) ?hB)); (case hB => (first | omega | (simp; done) | (simp; omega))))))⟩); rw [HR.out]; rfl
def around (n m : Int) : Int := (if n < 0 then -(n + 1) else n) % m
theorem around_neg (n m : Int) (h : n < 0) : -(n + 1).tmod m = around n m := by
  simp only [around, if_pos h]
  rw [← Int.neg_tmod, Int.tmod_eq_emod_of_nonneg (by omega)]
theorem around_pos (n m : Int) (h : 0 ≤ n) : n % m = around n m := by
  simp only [around, if_neg (show ¬ n < 0 by omega)]
theorem around_bd (n m : Int) (hm : 0 < m) : 0 ≤ around n m ∧ around n m ≤ m - 1 := by
  have h1 := Int.emod_nonneg (if n < 0 then -(n + 1) else n) (show m ≠ 0 by omega)
  have h2 := Int.emod_lt_of_pos (if n < 0 then -(n + 1) else n) hm
  unfold around; omega
theorem ref_Around (n m : Int) (w : World) (h1 : -9223372036854775808 ≤ n) (h2 : n ≤ 9223372036854775807) (h3 : 0 < m) (h4 : m ≤ 9223372036854775807) : Calls Try.prog 34 #[.int .i64 n, .int .i64 m] w fun e w' => e = .returned (.int .i64 (around n m)) ∧ w = w' := by
  have e1 := Lib.hid (fun h : n < 0 => around_neg n m h)
  have e2 := Lib.hid (fun h : 0 ≤ n => around_pos n m h)
  go_enter Try.func34, Try.ntmps34
  go_wp2
  all_goals (go_ret; refine ⟨?_, rfl⟩; first | exact congrArg (fun x => Ending.returned (.int .i64 x)) (e1.out ‹_›) | exact congrArg (fun x => Ending.returned (.int .i64 x)) (e2.out ‹_›))
def K2.Bd (k : K2) : Prop := -9223372036854775808 ≤ k.c ∧ k.c ≤ 9223372036854775807 ∧ -9223372036854775808 ≤ k.i ∧ k.i ≤ 9223372036854775807
def smallK (k : K2) : K2 := ⟨around k.c 3, around k.i 3⟩
theorem law_small (k : K2) (w : World) (hk : k.Bd) : Calls Try.prog 29 #[(.agg #[.int .i64 (k).c, .int .i64 (k).i])] w fun e w' => e = .returned ((.agg #[.int .i64 ((smallK k)).c, .int .i64 ((smallK k)).i])) ∧ Below w.heap.size w w' := by
  unfold K2.Bd at hk
  obtain ⟨a, b, c, d⟩ := hk
  have c1 := fun w => ref_Around k.c 3 w a b (by omega) (by omega)
  have c2 := fun w => ref_Around k.i 3 w c d (by omega) (by omega)
  go_enter Try.func29, Try.ntmps29
  go_wp2
  (refine wp_region_ext_tail 7 (by kernel_rfl) (by kernel_rfl) ?_; simp only [List.take_succ_cons, List.take_zero, List.drop_succ_cons, List.drop_zero]; (repeat (go_big_quiet_step ((first | (go_at_call 34; with_reducible exact ext_same (c1 _)) | (go_at_call 34; with_reducible exact ext_same (c2 _)))))); refine wpQuiet_nil ?_; intro w2 hb_w2; obtain ⟨hc_w2, hf_w2⟩ := bcell hb_w2; have hz_w2 := hb_w2.size; (try simp only [World.size_alloc, World.size_setCell, World.size_drew] at hz_w2))
  go_wp2
  (refine bodyPost_ret (by simp [results, Try.results29, go_sem, ↓IntWalk.iteOmega, *]; rfl) rfl ⟨?_, by (repeat (first | (with_reducible exact Below.refl _ _) | ((with_reducible refine Below.alloc ?_ ?hB _); (case hB => (first | omega | (simp; done) | (simp; omega)))) | ((with_reducible refine Below.setCell ?_ ?hB _); (case hB => (first | omega | (simp; done) | (simp; omega)))) | (with_reducible refine Below.drew ?_) | ((with_reducible refine below_ext_of ?_ ?hB); (case hB => (first | omega | (simp; done) | (simp; omega)))) | ((with_reducible refine Below.trans ?_ (Below.mono (by assumption) ?hB)); (case hB => (first | omega | (simp; done) | (simp; omega))))))⟩; rfl)
end Go.Proofs.Yteldbnelfeiifaa
