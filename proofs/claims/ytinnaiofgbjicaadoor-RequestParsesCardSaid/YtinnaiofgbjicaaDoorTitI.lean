/- The title of a text, the document's: walked. -/
import Derived.Test.YtinnaiofgbjicaaDoorTitH
namespace Go.Proofs.YtinnaiofgbjicaaDoor
open Go.RowKit Go.Proofs.YtinnaiofgbjicaaDoorW.PrintWords
set_option linter.unusedSimpArgs false
set_option linter.unusedVariables false
set_option maxRecDepth 1000000
theorem r6_Few (s : ByteArray) (w : World) (hs : s.size ≤ 9223372036854775807) : Calls Tryd.prog 41 #[.string s, .int .i64 20] w fun e w' => e = .returned (.string (s.extract 0 (min s.size 20))) ∧ Below w.heap.size w w' := by
  by_cases h : 20 < s.size
  · rw [show min s.size 20 = 20 by omega]
    go_enter Tryd.func41, Tryd.ntmps41
    go_wp2
    (go_ret; refine ⟨?_, by (repeat (first | (with_reducible exact Below.refl _ _) | ((with_reducible refine Below.alloc ?_ ?hB _); (case hB => (first | omega | (simp; done) | (simp; omega)))) | ((with_reducible refine Below.setCell ?_ ?hB _); (case hB => (first | omega | (simp; done) | (simp; omega)))) | (with_reducible refine Below.drew ?_) | ((with_reducible refine below_ext_of ?_ ?hB); (case hB => (first | omega | (simp; done) | (simp; omega)))) | ((with_reducible refine Below.trans ?_ (Below.mono (by assumption) ?hB)); (case hB => (first | omega | (simp; done) | (simp; omega))))))⟩); rfl
  · rw [show min s.size 20 = s.size by omega, show s.extract 0 s.size = s from ByteArray.extract_zero_size]
    go_enter Tryd.func41, Tryd.ntmps41
    go_wp2
    (go_ret; refine ⟨?_, by (repeat (first | (with_reducible exact Below.refl _ _) | ((with_reducible refine Below.alloc ?_ ?hB _); (case hB => (first | omega | (simp; done) | (simp; omega)))) | ((with_reducible refine Below.setCell ?_ ?hB _); (case hB => (first | omega | (simp; done) | (simp; omega)))) | (with_reducible refine Below.drew ?_) | ((with_reducible refine below_ext_of ?_ ?hB); (case hB => (first | omega | (simp; done) | (simp; omega)))) | ((with_reducible refine Below.trans ?_ (Below.mono (by assumption) ?hB)); (case hB => (first | omega | (simp; done) | (simp; omega))))))⟩); rfl
def outB (s : ByteArray) (l : List Nat) : ByteArray := ⟨(outL s l).toArray⟩
theorem outB_size (s : ByteArray) (l : List Nat) : (outB s l).size ≤ 4 * l.length := by
  have := outL_len s l
  simpa [outB, ByteArray.size] using this
theorem outB_bad {s : ByteArray} {l : List Nat} {i : Nat} (hb : badAt s i = true) : outB s (l ++ [i]) = outB s l ++ { data := #[63] } := by
  apply ByteArray.ext
  simp [outB, outL, outR, hb, enc_63, ByteArray.data_append]
theorem outB_ok {s : ByteArray} {l : List Nat} {i : Nat} (hi : i < s.size) (hb : badAt s i = false) : outB s (l ++ [i]) = outB s l ++ s.extract i (i + (sg s i).2) := by
  have hk : brk (sg s i) = false := by
    unfold badAt at hb; simp only [Bool.or_eq_false_iff] at hb; exact hb.2
  obtain ⟨h1, h2⟩ := sg_enc hi hk
  have hr : outR s i = ((sg s i).1 : Int) := by unfold outR; rw [hb]; rfl
  apply ByteArray.ext
  rw [ByteArray.data_append, ByteArray.data_extract]
  apply Array.ext'
  rw [Array.toList_append, Array.toList_extract]
  simp only [outB, outL, List.flatMap_append, List.flatMap_cons, List.flatMap_nil, List.append_nil]
  rw [hr, h2, List.extract_eq_take_drop]
  rw [show i + (sg s i).2 - i = (sg s i).2 by omega]
theorem poss_mem {s : ByteArray} : ∀ (f i : Nat), ∀ j ∈ posF f s i, j < s.size
  | 0, i, j, h => by cases h
  | f + 1, i, j, h => by
    simp only [posF] at h
    split at h
    · rcases List.mem_cons.1 h with rfl | h
      · assumption
      · exact poss_mem f _ j h
    · cases h
theorem poss_lt {s : ByteArray} {i : Nat} (h : i < (poss s).length) : atN (poss s) i < s.size := by
  rw [atN_get h]; exact poss_mem _ _ _ (List.getElem_mem h)
theorem take_atN {l : List Nat} {j : Nat} (h : j < l.length) : l.take (j + 1) = l.take j ++ [atN l j] := by
  rw [List.take_succ_eq_append_getElem h, atN_get h]
set_option maxHeartbeats 4000000 in
theorem r6_Clean (s : ByteArray) (hs : s.size ≤ 1000000) (w : World) : Calls Tryd.prog 40 #[.string s] w fun e w' => e = .returned (.string (cleanP s)) ∧ Below w.heap.size w w' := by
  have cS := fun w => r6_Signs s hs w
  unfold SgP at cS
  have hpl := poss_len s
  have hpt := @poss_lt s
  have HPT := Lib.hid (fun i (h : i < (poss s).length) => hpt h)
  have hcl : cleanP s = outB s ((poss s).take 64) := rfl
  rw [hcl]
  clear hcl hpt
  generalize poss s = P at *
  go_enter Tryd.func40, Tryd.ntmps40
  go_wp2_with (first | (go_at_call 63; (with_reducible refine (cS _).mono ?_); rintro en w1 ⟨A, c, rfl, hlc, hr, hb1⟩; replace hr := Lib.hid hr; have hz1 := hb1.size))
  go_loopw [4, 5] (fun o u wr => ∃ j : Nat, j ≤ P.length ∧ j ≤ 64 ∧ o = .string (outB s (P.take j)) ∧ u = .int .i64 j ∧ Below w1.heap.size w1 wr) (fun _ u _ => P.length - (intOf u).toNat)
  case atStart => exact ⟨0, Nat.zero_le _, by omega, rfl, rfl, Below.refl _ _⟩
  case round =>
    obtain ⟨j, hj, hj64, rfl, rfl, hbr⟩ := hrel
    have hzr := hbr.size
    have hos := outB_size s (P.take j)
    have hol : (P.take j).length ≤ 64 := by rw [List.length_take]; omega
    by_cases hlt : j < P.length
    · by_cases h64 : j < 64
      · obtain ⟨ad, rfl, h0, h1, h2, h3⟩ := (hr.out.below hbr) j hlt
        have hil := HPT.out j hlt
        have hin := sg_in hil
        have cO := fun w => r6_odd (sg s (atN P j)).1 w
        have HT := Lib.hid (take_atN hlt)
        have HB := Lib.hid (fun h => outB_bad (s := s) (l := P.take j) (i := atN P j) h)
        have HO := Lib.hid (outB_ok (s := s) (l := P.take j) hil)
        have HBA := Lib.hid (show badAt s (atN P j) = (oddN (sg s (atN P j)).1 || brk (sg s (atN P j))) from rfl)
        have hsz : (outB s (P.take j)).size ≤ 256 := by omega
        clear hos
        generalize outB s (P.take j) = ob at *
        generalize atN P j = i at *
        cases ho : oddN (sg s i).1
        · rw [ho] at cO
          cases hk : brk (sg s i)
          · have hv := Lib.hid (HO.out (by rw [HBA.out, ho, hk]; rfl))
            rw [hk] at h3
            clear ho hk
            generalize (sg s i).2 = n at *
            generalize (sg s i).1 = r at *
            go_wp2_with (first | (go_at_call 64; (with_reducible refine (cO _).mono ?_); rintro en w3 ⟨rfl, hb3⟩; have h0' := pw_cell_below hb3 h0; have h1' := pw_cell_below hb3 h1; have h3' := pw_cell_below hb3 h3; have hz3 := hb3.size))
            have k0 := fun x => pw_cell_below (below_ext w3 x) h0'
            have k1 := fun x => pw_cell_below (below_ext w3 x) h1'
            clear h0 h1 h0' h1' h3 h3' h2
            (refine wp_region_ext_lit (by kernel_rfl) (by kernel_rfl) ?_; (repeat (go_big_quiet_step ((fail)))); refine wpQuiet_nil ?_; intro w4 hb_w4; obtain ⟨hc_w4, hf_w4⟩ := bcell hb_w4; have hz_w4 := hb_w4.size; (try simp only [World.size_alloc, World.size_setCell, World.size_drew] at hz_w4))
            go_wp2
            go_roundw
            case rel => exact ⟨j + 1, by omega, by omega, by rw [HT.out, hv.out], by go_num, by (repeat (first | (with_reducible exact Below.refl _ _) | ((with_reducible refine Below.alloc ?_ ?hB _); (case hB => (first | omega | (simp; done) | (simp; omega)))) | ((with_reducible refine Below.setCell ?_ ?hB _); (case hB => (first | omega | (simp; done) | (simp; omega)))) | (with_reducible refine Below.drew ?_) | ((with_reducible refine below_ext_of ?_ ?hB); (case hB => (first | omega | (simp; done) | (simp; omega)))) | ((with_reducible refine Below.trans ?_ (Below.mono (by assumption) ?hB)); (case hB => (first | omega | (simp; done) | (simp; omega))))))⟩
            case measure => (simp [intOf]; omega)
          · have hv := Lib.hid (HB.out (by rw [HBA.out, ho, hk]; rfl))
            rw [hk] at h3
            clear ho hk
            go_wp2_with (first | (go_at_call 64; (with_reducible refine (cO _).mono ?_); rintro en w3 ⟨rfl, hb3⟩; have h0' := pw_cell_below hb3 h0; have h1' := pw_cell_below hb3 h1; have h3' := pw_cell_below hb3 h3; have hz3 := hb3.size))
            go_roundw
            case rel => exact ⟨j + 1, by omega, by omega, by rw [HT.out, hv.out], by go_num, by (repeat (first | (with_reducible exact Below.refl _ _) | ((with_reducible refine Below.alloc ?_ ?hB _); (case hB => (first | omega | (simp; done) | (simp; omega)))) | ((with_reducible refine Below.setCell ?_ ?hB _); (case hB => (first | omega | (simp; done) | (simp; omega)))) | (with_reducible refine Below.drew ?_) | ((with_reducible refine below_ext_of ?_ ?hB); (case hB => (first | omega | (simp; done) | (simp; omega)))) | ((with_reducible refine Below.trans ?_ (Below.mono (by assumption) ?hB)); (case hB => (first | omega | (simp; done) | (simp; omega))))))⟩
            case measure => (simp [intOf]; omega)
        · rw [ho] at cO
          have hv := Lib.hid (HB.out (by rw [HBA.out, ho]; rfl))
          clear ho
          go_wp2_with (first | (go_at_call 64; (with_reducible refine (cO _).mono ?_); rintro en w3 ⟨rfl, hb3⟩; have h0' := pw_cell_below hb3 h0; have h1' := pw_cell_below hb3 h1; have h3' := pw_cell_below hb3 h3; have hz3 := hb3.size))
          go_roundw
          case rel => exact ⟨j + 1, by omega, by omega, by rw [HT.out, hv.out], by go_num, by (repeat (first | (with_reducible exact Below.refl _ _) | ((with_reducible refine Below.alloc ?_ ?hB _); (case hB => (first | omega | (simp; done) | (simp; omega)))) | ((with_reducible refine Below.setCell ?_ ?hB _); (case hB => (first | omega | (simp; done) | (simp; omega)))) | (with_reducible refine Below.drew ?_) | ((with_reducible refine below_ext_of ?_ ?hB); (case hB => (first | omega | (simp; done) | (simp; omega)))) | ((with_reducible refine Below.trans ?_ (Below.mono (by assumption) ?hB)); (case hB => (first | omega | (simp; done) | (simp; omega))))))⟩
          case measure => (simp [intOf]; omega)
      · obtain rfl : j = 64 := by omega
        go_wp2
        (go_ret; refine ⟨?_, by (repeat (first | (with_reducible exact Below.refl _ _) | ((with_reducible refine Below.alloc ?_ ?hB _); (case hB => (first | omega | (simp; done) | (simp; omega)))) | ((with_reducible refine Below.setCell ?_ ?hB _); (case hB => (first | omega | (simp; done) | (simp; omega)))) | (with_reducible refine Below.drew ?_) | ((with_reducible refine below_ext_of ?_ ?hB); (case hB => (first | omega | (simp; done) | (simp; omega)))) | ((with_reducible refine Below.trans ?_ (Below.mono (by assumption) ?hB)); (case hB => (first | omega | (simp; done) | (simp; omega))))))⟩); rfl
    · obtain rfl : j = P.length := by omega
      have he : P.take 64 = P.take P.length := by rw [List.take_of_length_le (by omega), List.take_of_length_le (Nat.le_refl _)]
      replace he := Lib.hid he
      go_wp2
      (go_ret; refine ⟨?_, by (repeat (first | (with_reducible exact Below.refl _ _) | ((with_reducible refine Below.alloc ?_ ?hB _); (case hB => (first | omega | (simp; done) | (simp; omega)))) | ((with_reducible refine Below.setCell ?_ ?hB _); (case hB => (first | omega | (simp; done) | (simp; omega)))) | (with_reducible refine Below.drew ?_) | ((with_reducible refine below_ext_of ?_ ?hB); (case hB => (first | omega | (simp; done) | (simp; omega)))) | ((with_reducible refine Below.trans ?_ (Below.mono (by assumption) ?hB)); (case hB => (first | omega | (simp; done) | (simp; omega))))))⟩)
      rw [he.out]; rfl
end Go.Proofs.YtinnaiofgbjicaaDoor
