/- Numerals; the document's numeral of a number, walked. -/
import Derived.Test.YtinnaiofgbjicaaDoorEvB
import Derived.Lib.ItoaMem
import Derived.Lib.ItoaLen
namespace Go.Proofs.YtinnaiofgbjicaaDoor
open Go.RowKit Go.Proofs.YtinnaiofgbjicaaDoorW.PrintWords
set_option linter.unusedSimpArgs false
set_option linter.unusedVariables false
set_option maxRecDepth 1000000
open Go.Lib in
open Go.Lib in
theorem dec_small_neg {n : Int} (h : -10 < n) (h0 : n < 0) : itoa n = [45, UInt8.ofNat (48 + (-n).toNat)] := by
  unfold itoa; rw [if_pos h0, decDigits_one (by omega)]
  rw [show n.natAbs = (-n).toNat by omega]
open Go.Lib in
theorem dec_small_pos {n : Int} (h : n < 10) (h0 : 0 ≤ n) : itoa n = [UInt8.ofNat (48 + n.toNat)] := by
  unfold itoa; rw [if_neg (by omega), decDigits_one (by omega)]
open Go.Lib in
theorem dec_step (u : Nat) (h : ¬ u < 10) : decDigits u = decDigits (u / 10) ++ [UInt8.ofNat (48 + u % 10)] := by
  rw [decDigits, dif_neg h]
open Go.Lib in
theorem dec_big_pos {n : Int} (h : 10 ≤ n) : itoa n = itoa (n.tdiv 10) ++ [UInt8.ofNat (48 + (n.tmod 10).toNat)] := by
  obtain ⟨u, rfl⟩ : ∃ u : Nat, n = u := ⟨n.toNat, by omega⟩
  have h1 : (u : Int).tdiv 10 = ((u / 10 : Nat) : Int) := by rw [Int.tdiv_eq_ediv_of_nonneg (by omega)]; rfl
  have h2 : (u : Int).tmod 10 = ((u % 10 : Nat) : Int) := by rw [Int.tmod_eq_emod_of_nonneg (by omega)]; rfl
  rw [h1, h2, itoa_nonneg, itoa_nonneg, dec_step u (by omega), Int.toNat_natCast]
open Go.Lib in
theorem dec_big_neg {n : Int} (h : n ≤ -10) : itoa n = itoa (n.tdiv 10) ++ [UInt8.ofNat (48 + (-(n.tmod 10)).toNat)] := by
  obtain ⟨u, rfl⟩ : ∃ u : Nat, n = -(u : Int) := ⟨(-n).toNat, by omega⟩
  have h1 : (-(u : Int)).tdiv 10 = -((u / 10 : Nat) : Int) := by rw [Int.neg_tdiv, Int.tdiv_eq_ediv_of_nonneg (by omega)]; rfl
  have h2 : (-(u : Int)).tmod 10 = -((u % 10 : Nat) : Int) := by rw [Int.neg_tmod, Int.tmod_eq_emod_of_nonneg (by omega)]; rfl
  rw [h1, h2, itoa_neg _ (by omega), itoa_neg _ (by omega), dec_step u (by omega), Int.neg_neg, Int.toNat_natCast]; rfl
open Go.Lib in
theorem dig_bd (u : Nat) : ∀ b ∈ decDigits u, 48 ≤ b ∧ b ≤ 57 := by
  induction u using Nat.strongRecOn with
  | _ u ih =>
    intro b hb
    by_cases h : u < 10
    · rw [decDigits_one h] at hb
      rw [List.mem_singleton.1 hb]
      have : ∀ v : Fin 10, 48 ≤ UInt8.ofNat (48 + v.1) ∧ UInt8.ofNat (48 + v.1) ≤ 57 := by decide
      exact this ⟨u, h⟩
    · rw [dec_step u h] at hb
      rcases List.mem_append.1 hb with hb | hb
      · exact ih _ (by omega) b hb
      · rw [List.mem_singleton.1 hb]
        have : ∀ v : Fin 10, 48 ≤ UInt8.ofNat (48 + v.1) ∧ UInt8.ofNat (48 + v.1) ≤ 57 := by decide
        exact this ⟨u % 10, by omega⟩
open Go.Lib in
theorem dec_inj : ∀ (u v : Nat), decDigits u = decDigits v → u = v := by
  intro u
  induction u using Nat.strongRecOn with
  | _ u ih =>
    intro v h
    have hd : ∀ a b : Fin 10, UInt8.ofNat (48 + a.1) = UInt8.ofNat (48 + b.1) → a = b := by decide
    by_cases hu : u < 10
    · by_cases hv : v < 10
      · rw [decDigits_one hu, decDigits_one hv] at h
        have := hd ⟨u, hu⟩ ⟨v, hv⟩ (by simpa using h)
        simpa using this
      · rw [decDigits_one hu, dec_step v hv] at h
        have h1 := congrArg List.length h
        have h2 := nDigits_pos (v / 10)
        rw [List.length_append, decDigits_length] at h1
        simp at h1; omega
    · by_cases hv : v < 10
      · rw [decDigits_one hv, dec_step u hu] at h
        have h1 := congrArg List.length h
        have h2 := nDigits_pos (u / 10)
        rw [List.length_append, decDigits_length] at h1
        simp at h1; omega
      · rw [dec_step u hu, dec_step v hv] at h
        have h1 := List.append_inj' h rfl
        have h2 := ih _ (by omega) _ h1.1
        have h3 := hd ⟨u % 10, by omega⟩ ⟨v % 10, by omega⟩ (by simpa using h1.2)
        simp at h3
        omega
open Go.Lib in
theorem itoa_bd (n : Int) : ∀ b ∈ itoa n, ¬ b = 32 := by
  intro b hb e
  subst e
  unfold itoa at hb
  split at hb
  · rcases List.mem_cons.1 hb with h | h
    · exact absurd h (by decide)
    · exact absurd (dig_bd _ _ h).1 (by decide)
  · exact absurd (dig_bd _ _ hb).1 (by decide)
open Go.Lib in
theorem itoa_inj {n m : Int} (h : itoa n = itoa m) : n = m := by
  unfold itoa at h
  split at h
  · split at h
    · have := dec_inj _ _ (List.cons.inj h).2; omega
    · have h1 := dig_bd m.toNat 45 (by rw [← h]; exact List.mem_cons_self ..)
      exact absurd h1.1 (by decide)
  · split at h
    · have h1 := dig_bd n.toNat 45 (by rw [h]; exact List.mem_cons_self ..)
      exact absurd h1.1 (by decide)
    · have := dec_inj _ _ h; omega
open Go.Lib in
theorem split_at {A A' B B' : List UInt8} (hA : ∀ b ∈ A, ¬ b = 32) (hA' : ∀ b ∈ A', ¬ b = 32) (h : A ++ 32 :: B = A' ++ 32 :: B') : A = A' ∧ B = B' := by
  induction A generalizing A' with
  | nil =>
    cases A' with
    | nil => simp at h; exact ⟨rfl, h⟩
    | cons a A' => simp at h; exact absurd h.1.symm (hA' a (List.mem_cons_self ..))
  | cons a A ih =>
    cases A' with
    | nil => simp at h; exact absurd h.1 (hA a (List.mem_cons_self ..))
    | cons a' A' =>
      simp at h
      have := ih (fun b hb => hA b (List.mem_cons_of_mem _ hb)) (fun b hb => hA' b (List.mem_cons_of_mem _ hb)) h.2
      exact ⟨by rw [h.1, this.1], this.2⟩

/-- A number's numeral, as a string. -/
def itoS (n : Int) : ByteArray := ⟨(Lib.itoa n).toArray⟩
theorem app_mk (a b : List UInt8) : (ByteArray.mk a.toArray ++ ByteArray.mk b.toArray) = ByteArray.mk (a ++ b).toArray := by
  apply ByteArray.ext; simp
theorem str_one (z : Int) : strOfNums [z] = ByteArray.mk [UInt8.ofNat z.toNat].toArray := rfl
theorem tm10 (n : Int) : (0 ≤ n → 0 ≤ n.tmod 10 ∧ n.tmod 10 ≤ 9) ∧ (n ≤ 0 → n.tmod 10 ≤ 0 ∧ -9 ≤ n.tmod 10) := by
  constructor
  · intro h
    have := Int.tmod_nonneg 10 h
    have := Int.tmod_lt_of_pos n (show (0 : Int) < 10 by omega)
    omega
  · intro h
    have h1 := Int.tmod_nonneg 10 (show 0 ≤ -n by omega)
    have h2 := Int.tmod_lt_of_pos (-n) (show (0 : Int) < 10 by omega)
    rw [Int.neg_tmod] at h1 h2
    omega
theorem td10 (n : Int) : (10 ≤ n → 1 ≤ n.tdiv 10 ∧ n.tdiv 10 < n) ∧ (n ≤ -10 → n.tdiv 10 ≤ -1 ∧ n < n.tdiv 10) := by
  constructor
  · intro h; rw [Int.tdiv_eq_ediv_of_nonneg (by omega)]; omega
  · intro h
    have e : n.tdiv 10 = -((-n).tdiv 10) := by rw [Int.neg_tdiv, Int.neg_neg]
    rw [e, Int.tdiv_eq_ediv_of_nonneg (by omega)]; omega
theorem itoS_size {n : Int} (h : -9223372036854775808 ≤ n ∧ n ≤ 9223372036854775807) : (itoS n).size ≤ 21 := by
  have := Lib.itoa_length_le n h.1 h.2
  simpa [itoS, ByteArray.size] using this
theorem dec_a (n : Int) (w : World) (h : -10 < n) (h0 : n < 0) : Calls Tryd.prog 55 #[.int .i64 n] w fun e w' => e = .returned (.string (itoS n)) ∧ Below w.heap.size w w' := by
  have HE := Lib.hid (show itoS n = { data := #[45] } ++ strOfNums [48 + -n] from by unfold itoS; rw [str_one, dec_small_neg h h0, show (48 + -n).toNat = 48 + (-n).toNat by omega]; exact (app_mk [45] [_]).symm)
  have hr : n.tmod 10 = n := by rw [← Int.neg_neg n, Int.neg_tmod, Int.tmod_eq_emod_of_nonneg (by omega)]; omega
  have kd : ∀ (w : World) (z : Int), (convert 22 9 (.slice (some ⟨w.heap.size, 0, none⟩) 1 1)).run Tryd.prog (w.alloc (.cells #[.int .u8 z] 5)) = .ok (.string (strOfNums [z])) (w.alloc (.cells #[.int .u8 z] 5)) := fun w z => str_reads (c := 1) (reads_lit w [z] (by simp))
  go_enter Tryd.func55, Tryd.ntmps55
  go_wp2
  (go_ret; refine ⟨?_, by (repeat (first | (with_reducible exact Below.refl _ _) | ((with_reducible refine Below.alloc ?_ ?hB _); (case hB => (first | omega | (simp; done) | (simp; omega)))) | ((with_reducible refine Below.setCell ?_ ?hB _); (case hB => (first | omega | (simp; done) | (simp; omega)))) | (with_reducible refine Below.drew ?_) | ((with_reducible refine below_ext_of ?_ ?hB); (case hB => (first | omega | (simp; done) | (simp; omega)))) | ((with_reducible refine Below.trans ?_ (Below.mono (by assumption) ?hB)); (case hB => (first | omega | (simp; done) | (simp; omega))))))⟩); rw [HE.out]; rfl
theorem dec_b (n : Int) (w : World) (h : n < 10) (h0 : 0 ≤ n) : Calls Tryd.prog 55 #[.int .i64 n] w fun e w' => e = .returned (.string (itoS n)) ∧ Below w.heap.size w w' := by
  have HE := Lib.hid (show itoS n = strOfNums [48 + n] from by unfold itoS; rw [str_one, dec_small_pos h h0, show (48 + n).toNat = 48 + n.toNat by omega])
  have hr : n.tmod 10 = n := by rw [Int.tmod_eq_emod_of_nonneg (by omega)]; omega
  have hr2 : n % 10 = n := by omega
  have hnn : ¬ n < 0 := by omega
  have kd : ∀ (w : World) (z : Int), (convert 22 9 (.slice (some ⟨w.heap.size, 0, none⟩) 1 1)).run Tryd.prog (w.alloc (.cells #[.int .u8 z] 5)) = .ok (.string (strOfNums [z])) (w.alloc (.cells #[.int .u8 z] 5)) := fun w z => str_reads (c := 1) (reads_lit w [z] (by simp))
  go_enter Tryd.func55, Tryd.ntmps55
  go_wp2
  (go_ret; refine ⟨?_, by (repeat (first | (with_reducible exact Below.refl _ _) | ((with_reducible refine Below.alloc ?_ ?hB _); (case hB => (first | omega | (simp; done) | (simp; omega)))) | ((with_reducible refine Below.setCell ?_ ?hB _); (case hB => (first | omega | (simp; done) | (simp; omega)))) | (with_reducible refine Below.drew ?_) | ((with_reducible refine below_ext_of ?_ ?hB); (case hB => (first | omega | (simp; done) | (simp; omega)))) | ((with_reducible refine Below.trans ?_ (Below.mono (by assumption) ?hB)); (case hB => (first | omega | (simp; done) | (simp; omega))))))⟩); rw [HE.out]; rfl
theorem dec_c (n q : Int) (w : World) (h : 10 ≤ n) (hn : n ≤ 9223372036854775807) (hq : n.tdiv 10 = q) (cD : ∀ w, Calls Tryd.prog 55 #[.int .i64 q] w fun e w' => e = .returned (.string (itoS q)) ∧ Below w.heap.size w w') : Calls Tryd.prog 55 #[.int .i64 n] w fun e w' => e = .returned (.string (itoS n)) ∧ Below w.heap.size w w' := by
  have hb := (tm10 n).1 (by omega)
  obtain ⟨r, hr⟩ : ∃ r, n.tmod 10 = r := ⟨_, rfl⟩
  rw [hr] at hb
  have HE := Lib.hid (show itoS n = itoS q ++ strOfNums [48 + r] from by unfold itoS; rw [dec_big_pos h, hq, hr, str_one, show (48 + r).toNat = 48 + r.toNat by omega]; exact (app_mk _ [_]).symm)
  have hr2 : n % 10 = r := by rw [← hr, Int.tmod_eq_emod_of_nonneg (by omega)]
  have hq2 : n / 10 = q := by rw [← hq, Int.tdiv_eq_ediv_of_nonneg (by omega)]
  have hq3 : -9223372036854775808 ≤ q ∧ q ≤ 9223372036854775807 := by have := (td10 n).1 h; omega
  have hsz : ¬ 9223372036854775807 < (itoS q).size + (strOfNums [48 + r]).size := by have := itoS_size hq3; rw [strOfNums_size]; simp; omega
  obtain ⟨hb1, hb2⟩ := hb
  have kd : ∀ (w : World) (z : Int), (convert 22 9 (.slice (some ⟨w.heap.size, 0, none⟩) 1 1)).run Tryd.prog (w.alloc (.cells #[.int .u8 z] 5)) = .ok (.string (strOfNums [z])) (w.alloc (.cells #[.int .u8 z] 5)) := fun w z => str_reads (c := 1) (reads_lit w [z] (by simp))
  generalize itoS q = tq at *
  go_enter Tryd.func55, Tryd.ntmps55
  go_wp2_with (first | (go_at_call 55; (with_reducible refine (cD _).mono ?_); rintro en w1 ⟨rfl, hb1⟩; obtain ⟨hc1, hf1⟩ := bcell hb1; have hz1 := hb1.size; (try simp only [World.size_alloc, World.size_setCell, World.size_drew] at hz1)))
  (go_ret; refine ⟨?_, by (repeat (first | (with_reducible exact Below.refl _ _) | ((with_reducible refine Below.alloc ?_ ?hB _); (case hB => (first | omega | (simp; done) | (simp; omega)))) | ((with_reducible refine Below.setCell ?_ ?hB _); (case hB => (first | omega | (simp; done) | (simp; omega)))) | (with_reducible refine Below.drew ?_) | ((with_reducible refine below_ext_of ?_ ?hB); (case hB => (first | omega | (simp; done) | (simp; omega)))) | ((with_reducible refine Below.trans ?_ (Below.mono (by assumption) ?hB)); (case hB => (first | omega | (simp; done) | (simp; omega))))))⟩); rw [HE.out]; rfl
theorem dec_d (n q : Int) (w : World) (h : n ≤ -10) (hn : -9223372036854775808 ≤ n) (hq : n.tdiv 10 = q) (cD : ∀ w, Calls Tryd.prog 55 #[.int .i64 q] w fun e w' => e = .returned (.string (itoS q)) ∧ Below w.heap.size w w') : Calls Tryd.prog 55 #[.int .i64 n] w fun e w' => e = .returned (.string (itoS n)) ∧ Below w.heap.size w w' := by
  have hb := (tm10 n).2 (by omega)
  have hqb := (td10 n).2 h
  obtain ⟨r, hr⟩ : ∃ r, n.tmod 10 = r := ⟨_, rfl⟩
  rw [hr] at hb
  rw [hq] at hqb
  have HE := Lib.hid (show itoS n = itoS q ++ strOfNums [48 + -r] from by unfold itoS; rw [dec_big_neg h, hq, hr, str_one, show (48 + -r).toNat = 48 + (-r).toNat by omega]; exact (app_mk _ [_]).symm)
  have hsz : ¬ 9223372036854775807 < (itoS q).size + (strOfNums [48 + -r]).size := by have := itoS_size (n := q) ⟨by omega, by omega⟩; rw [strOfNums_size]; simp; omega
  obtain ⟨hb1, hb2⟩ := hb
  have kd : ∀ (w : World) (z : Int), (convert 22 9 (.slice (some ⟨w.heap.size, 0, none⟩) 1 1)).run Tryd.prog (w.alloc (.cells #[.int .u8 z] 5)) = .ok (.string (strOfNums [z])) (w.alloc (.cells #[.int .u8 z] 5)) := fun w z => str_reads (c := 1) (reads_lit w [z] (by simp))
  generalize itoS q = tq at *
  by_cases hr0 : r < 0
  · go_enter Tryd.func55, Tryd.ntmps55
    go_wp2_with (first | (go_at_call 55; (with_reducible refine (cD _).mono ?_); rintro en w1 ⟨rfl, hb1⟩; obtain ⟨hc1, hf1⟩ := bcell hb1; have hz1 := hb1.size; (try simp only [World.size_alloc, World.size_setCell, World.size_drew] at hz1)))
    (go_ret; refine ⟨?_, by (repeat (first | (with_reducible exact Below.refl _ _) | ((with_reducible refine Below.alloc ?_ ?hB _); (case hB => (first | omega | (simp; done) | (simp; omega)))) | ((with_reducible refine Below.setCell ?_ ?hB _); (case hB => (first | omega | (simp; done) | (simp; omega)))) | (with_reducible refine Below.drew ?_) | ((with_reducible refine below_ext_of ?_ ?hB); (case hB => (first | omega | (simp; done) | (simp; omega)))) | ((with_reducible refine Below.trans ?_ (Below.mono (by assumption) ?hB)); (case hB => (first | omega | (simp; done) | (simp; omega))))))⟩); rw [HE.out]; rfl
  · obtain rfl : r = 0 := by omega
    have hsz : ¬ 9223372036854775807 < tq.size + (strOfNums [48]).size := hsz
    clear hb1 hb2 hr0
    go_enter Tryd.func55, Tryd.ntmps55
    go_wp2_with (first | (go_at_call 55; (with_reducible refine (cD _).mono ?_); rintro en w1 ⟨rfl, hb1⟩; obtain ⟨hc1, hf1⟩ := bcell hb1; have hz1 := hb1.size; (try simp only [World.size_alloc, World.size_setCell, World.size_drew] at hz1)))
    (go_ret; refine ⟨?_, by (repeat (first | (with_reducible exact Below.refl _ _) | ((with_reducible refine Below.alloc ?_ ?hB _); (case hB => (first | omega | (simp; done) | (simp; omega)))) | ((with_reducible refine Below.setCell ?_ ?hB _); (case hB => (first | omega | (simp; done) | (simp; omega)))) | (with_reducible refine Below.drew ?_) | ((with_reducible refine below_ext_of ?_ ?hB); (case hB => (first | omega | (simp; done) | (simp; omega)))) | ((with_reducible refine Below.trans ?_ (Below.mono (by assumption) ?hB)); (case hB => (first | omega | (simp; done) | (simp; omega))))))⟩); rw [HE.out]; rfl
theorem ref_DecimalN : ∀ (N : Nat) (n : Int), n.natAbs ≤ N → -9223372036854775808 ≤ n ∧ n ≤ 9223372036854775807 → ∀ w, Calls Tryd.prog 55 #[.int .i64 n] w fun e w' => e = .returned (.string (itoS n)) ∧ Below w.heap.size w w' := by
  intro N
  induction N with
  | zero =>
    intro n h hn w
    exact dec_b n w (by omega) (by omega)
  | succ N ih =>
    intro n h hn w
    by_cases h1 : n ≤ -10
    · have := (td10 n).2 h1
      exact dec_d n _ w h1 hn.1 rfl (fun w => ih _ (by omega) ⟨by omega, by omega⟩ w)
    · by_cases h2 : n < 0
      · exact dec_a n w (by omega) h2
      · by_cases h3 : n < 10
        · exact dec_b n w h3 (by omega)
        · have := (td10 n).1 (by omega)
          exact dec_c n _ w (by omega) hn.2 rfl (fun w => ih _ (by omega) ⟨by omega, by omega⟩ w)
theorem ref_Decimal (n : Int) (w : World) (hn : -9223372036854775808 ≤ n ∧ n ≤ 9223372036854775807) : Calls Tryd.prog 55 #[.int .i64 n] w fun e w' => e = .returned (.string (itoS n)) ∧ Below w.heap.size w w' := ref_DecimalN _ n (Nat.le_refl _) hn w
end Go.Proofs.YtinnaiofgbjicaaDoor
