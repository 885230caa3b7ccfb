/- The law ArgsSizes, walked. -/
import Derived.Test.YteldbnelfeiifaaUnpG
namespace Go.Proofs.Yteldbnelfeiifaa
open Go.RowKit Go.Proofs.YteldbnelfeiifaaW.PrintWords
set_option linter.unusedSimpArgs false
set_option linter.unusedVariables false
set_option maxRecDepth 1000000
set_option maxHeartbeats 4000000 in
theorem walk_ArgsSizes (f : ByteArray) (A : Option Addr) (l : List V8) (c : Nat) (w : World) (hf : f.size ≤ 9223372036854775807) (hc : l.length ≤ c) (hz : l.length ≤ 9223372036854775807) (hr : VRow w A l) (hok : ∀ i, i < l.length → (at8 l i).Bd) :
    Calls Try.prog 13 #[.string f, .slice A l.length c] w fun e w' => e = .returned (.bool true) ∧ Below w.heap.size w w' := by
  have hbd := Lib.hid (few_bd hok)
  have hl10 : (fewL l).length ≤ 1000000 := by rw [fewL_len]; omega
  have hg8 : ∀ s, (lettersP s).size ≤ 1000000 := fun s => by have := lettersP_size s; omega
  by_cases h12 : f.size ≤ 12
  · have h12' : ¬ (f.size : Int) > 12 := by omega
    have cL := fun w => ref_Letters f w hf
    have hg8 := hg8 f
    go_enter Try.func13, Try.ntmps13
    obtain ⟨g, hg⟩ : ∃ g, lettersP f = g := ⟨_, rfl⟩
    have HP := Lib.hid (round_pure f (fewL l) 0 hbd.out)
    have HS := Lib.hid (show noSB g g.size = true → sizeP g = ((catB (goodL g (fewL l)) g.size).length : Int) from fun hn => size_good g (fewL l) (hg ▸ letters_form f) hn)
    have HF := Lib.hid (show formP g = true from hg ▸ letters_form f)
    rw [hg] at HP hg8 cL
    have cG := fun w => args_Size g w (by omega)
    have cQ := fun w => args_Size f w (by omega)
    have cR := fun w => ref_Form f w (by omega)
    have h8 := HP.out.size
    go_wp2_with (first | (go_at_call 15; (with_reducible refine (cL _).mono ?_); rintro e w1 ⟨rfl, rfl⟩) | (go_at_call 53; (with_reducible refine (cG _).mono ?_); rintro e w5 ⟨rfl, hb5⟩; have hz5 := hb5.size) | (go_at_call 14; (with_reducible refine (law_fewP _ _ _ _ hc hz (hr.below ?_) hok).mono ?_); (focus ((repeat (first | (with_reducible exact Below.refl _ _) | ((with_reducible refine Below.alloc ?_ ?hB _); (case hB => (first | omega | (simp; done) | (simp; omega)))) | ((with_reducible refine Below.setCell ?_ ?hB _); (case hB => (first | omega | (simp; done) | (simp; omega)))) | (with_reducible refine Below.drew ?_) | ((with_reducible refine below_ext_of ?_ ?hB); (case hB => (first | omega | (simp; done) | (simp; omega)))) | ((with_reducible refine Below.trans ?_ (Below.mono (by assumption) ?hB)); (case hB => (first | omega | (simp; done) | (simp; omega)))))); done)); rintro e w1 ⟨A1, c1, rfl, hf1, hb1⟩; have hz1 := hb1.size; replace hf1 := Lib.hid hf1) | (go_at_call 16; (with_reducible refine (ref_GoodP _ _ _ _ _ hg8 hf1.out.1 hl10 hf1.out.2 hbd.out).mono ?_); rintro e w2 ⟨A2, c2, rfl, hf2, hb2⟩; have hz2 := hb2.size; replace hf2 := Lib.hid hf2))
    obtain ⟨l2, hl2⟩ : ∃ l2, goodL g (fewL l) = l2 := ⟨_, rfl⟩
    rw [hl2] at HP HS hf2 ⊢
    obtain ⟨b, hb⟩ : ∃ b, catB l2 g.size = b := ⟨_, rfl⟩
    rw [hb] at HP HS
    clear hg hl2 hb hok hr hl10 hg8 cL
    go_wp2_with (first | (go_at_call 19; (with_reducible refine (ref_PackB _ _ _ _ _ _ HP.out.byt HP.out.pack hf2.out.1 (by omega) HP.out.ok hf2.out.2).mono ?_); rintro e w4 ⟨A4, c4, rfl, hs4, hb4⟩; have hz4 := hb4.size))
    clear cG
    go_loopw [10, 11] (fun v i wr => ∃ j : Nat, j ≤ g.size ∧ i = .int .i64 j ∧ v = .bool (noSB g j) ∧ Below w4.heap.size w4 wr) (fun _ i _ => g.size - (intOf i).toNat)
    case atStart => exact ⟨0, by omega, rfl, by rw [show noSB g 0 = true from decide_eq_true (fun i hi => by omega)], Below.refl _ _⟩
    case round =>
      obtain ⟨j, hj, rfl, rfl, hbq⟩ := hrel
      have hzq := hbq.size
      by_cases hjl : j < g.size
      · have it := fun w => idx_string g j hjl w
        have eb := byN_at g j hjl
        have HN := Lib.hid (noSB_succ g j)
        cases hv : noSB g j
        · rw [hv] at HN
          go_wp2
          go_roundw
          case rel => exact ⟨j + 1, by omega, by go_num, by rw [HN.out]; rfl, hbq⟩
          case measure => simp [intOf]; omega
        · rw [hv] at HN
          by_cases h1 : byN g j = 115
          · have e1 : (byN g j != 115) = false := by simp [h1]
            have H2 := Lib.hid (show noSB g (j + 1) = false from by rw [HN.out]; simp [h1])
            clear h1 HN
            go_wp2
            go_roundw
            case rel => exact ⟨j + 1, by omega, by go_num, by rw [H2.out], hbq⟩
            case measure => simp [intOf]; omega
          · have e1 : (byN g j != 115) = true := by simp [h1]
            by_cases h2 : byN g j = 98
            · have e2 : (byN g j != 98) = false := by simp [h2]
              have H2 := Lib.hid (show noSB g (j + 1) = false from by rw [HN.out]; simp [h2])
              clear h1 h2 HN
              go_wp2
              go_roundw
              case rel => exact ⟨j + 1, by omega, by go_num, by rw [H2.out], hbq⟩
              case measure => simp [intOf]; omega
            · have e2 : (byN g j != 98) = true := by simp [h2]
              have H2 := Lib.hid (show noSB g (j + 1) = true from by rw [HN.out]; simp [h1, h2])
              clear h1 h2 HN
              go_wp2
              go_roundw
              case rel => exact ⟨j + 1, by omega, by go_num, by rw [H2.out], hbq⟩
              case measure => simp [intOf]; omega
      · obtain rfl : j = g.size := by omega
        have HBW := Lib.hid (show Below w.heap.size w wr from by (repeat (first | (with_reducible exact Below.refl _ _) | ((with_reducible refine Below.alloc ?_ ?hB _); (case hB => (first | omega | (simp; done) | (simp; omega)))) | ((with_reducible refine Below.setCell ?_ ?hB _); (case hB => (first | omega | (simp; done) | (simp; omega)))) | (with_reducible refine Below.drew ?_) | ((with_reducible refine below_ext_of ?_ ?hB); (case hB => (first | omega | (simp; done) | (simp; omega)))) | ((with_reducible refine Below.trans ?_ (Below.mono (by assumption) ?hB)); (case hB => (first | omega | (simp; done) | (simp; omega)))))))
        have hzw : w.heap.size ≤ wr.heap.size := by omega
        have hfx : fixP g = noSB g g.size := by unfold fixP; rw [HF.out]; rfl
        have hs0 : noSB g g.size = false → sizeP g = 0 := fun h => by unfold sizeP; rw [hfx, h]; rfl
        have hq : formP f = false → sizeP f = 0 ∧ fixP f = false := fun h => by
          have : fixP f = false := by unfold fixP; rw [h]; rfl
          exact ⟨by unfold sizeP; rw [this]; rfl, this⟩
        have HQ := Lib.hid hq
        clear hb1 hb2 hb4 hb5 hbq hzq hz1 hz2 hz4 hz5 hq
        cases hn : noSB g g.size
        · rw [hn] at hfx
          have hs := hs0 hn
          clear hs0
          cases hfm : formP f
          · have hqq := HQ.out hfm
            rw [hqq.1, hqq.2] at cQ
            rw [hfm] at cR
            clear hqq hfm hn
            go_wp2_with (first | (go_at_call 53; (with_reducible refine (cQ _).mono ?_); rintro e w6 ⟨rfl, hb6⟩; have hz6 := hb6.size) | (go_at_call 21; (with_reducible refine (cR _).mono ?_); rintro e w1 ⟨rfl, rfl⟩) | (go_at_call 22; (with_reducible refine (args_lives _).mono ?_); rintro e w1 ⟨rfl, hb1⟩; obtain ⟨hc1, hf1⟩ := bcell hb1; have hz1 := hb1.size; (try simp only [World.size_alloc, World.size_setCell, World.size_drew] at hz1)))
            go_ret
            exact ⟨rfl, HBW.out.trans (Below.mono (by (repeat (first | (with_reducible exact Below.refl _ _) | ((with_reducible refine Below.alloc ?_ ?hB _); (case hB => (first | omega | (simp; done) | (simp; omega)))) | ((with_reducible refine Below.setCell ?_ ?hB _); (case hB => (first | omega | (simp; done) | (simp; omega)))) | (with_reducible refine Below.drew ?_) | ((with_reducible refine below_ext_of ?_ ?hB); (case hB => (first | omega | (simp; done) | (simp; omega)))) | ((with_reducible refine Below.trans ?_ (Below.mono (by assumption) ?hB)); (case hB => (first | omega | (simp; done) | (simp; omega))))))) hzw)⟩
          · rw [hfm] at cR
            clear hfm hn
            go_wp2_with (first | (go_at_call 53; (with_reducible refine (cQ _).mono ?_); rintro e w6 ⟨rfl, hb6⟩; have hz6 := hb6.size) | (go_at_call 21; (with_reducible refine (cR _).mono ?_); rintro e w1 ⟨rfl, rfl⟩) | (go_at_call 22; (with_reducible refine (args_lives _).mono ?_); rintro e w1 ⟨rfl, hb1⟩; obtain ⟨hc1, hf1⟩ := bcell hb1; have hz1 := hb1.size; (try simp only [World.size_alloc, World.size_setCell, World.size_drew] at hz1)))
            go_ret
            exact ⟨rfl, HBW.out.trans (Below.mono (by (repeat (first | (with_reducible exact Below.refl _ _) | ((with_reducible refine Below.alloc ?_ ?hB _); (case hB => (first | omega | (simp; done) | (simp; omega)))) | ((with_reducible refine Below.setCell ?_ ?hB _); (case hB => (first | omega | (simp; done) | (simp; omega)))) | (with_reducible refine Below.drew ?_) | ((with_reducible refine below_ext_of ?_ ?hB); (case hB => (first | omega | (simp; done) | (simp; omega)))) | ((with_reducible refine Below.trans ?_ (Below.mono (by assumption) ?hB)); (case hB => (first | omega | (simp; done) | (simp; omega))))))) hzw)⟩
        · rw [hn] at hfx
          have hs : (sizeP g == (b.length : Int)) = true := by rw [HS.out hn]; simp
          clear hs0
          cases hfm : formP f
          · have hqq := HQ.out hfm
            rw [hqq.1, hqq.2] at cQ
            rw [hfm] at cR
            clear hqq hfm hn
            go_wp2_with (first | (go_at_call 53; (with_reducible refine (cQ _).mono ?_); rintro e w6 ⟨rfl, hb6⟩; have hz6 := hb6.size) | (go_at_call 21; (with_reducible refine (cR _).mono ?_); rintro e w1 ⟨rfl, rfl⟩) | (go_at_call 22; (with_reducible refine (args_lives _).mono ?_); rintro e w1 ⟨rfl, hb1⟩; obtain ⟨hc1, hf1⟩ := bcell hb1; have hz1 := hb1.size; (try simp only [World.size_alloc, World.size_setCell, World.size_drew] at hz1)))
            go_ret
            exact ⟨rfl, HBW.out.trans (Below.mono (by (repeat (first | (with_reducible exact Below.refl _ _) | ((with_reducible refine Below.alloc ?_ ?hB _); (case hB => (first | omega | (simp; done) | (simp; omega)))) | ((with_reducible refine Below.setCell ?_ ?hB _); (case hB => (first | omega | (simp; done) | (simp; omega)))) | (with_reducible refine Below.drew ?_) | ((with_reducible refine below_ext_of ?_ ?hB); (case hB => (first | omega | (simp; done) | (simp; omega)))) | ((with_reducible refine Below.trans ?_ (Below.mono (by assumption) ?hB)); (case hB => (first | omega | (simp; done) | (simp; omega))))))) hzw)⟩
          · rw [hfm] at cR
            clear hfm hn
            go_wp2_with (first | (go_at_call 53; (with_reducible refine (cQ _).mono ?_); rintro e w6 ⟨rfl, hb6⟩; have hz6 := hb6.size) | (go_at_call 21; (with_reducible refine (cR _).mono ?_); rintro e w1 ⟨rfl, rfl⟩) | (go_at_call 22; (with_reducible refine (args_lives _).mono ?_); rintro e w1 ⟨rfl, hb1⟩; obtain ⟨hc1, hf1⟩ := bcell hb1; have hz1 := hb1.size; (try simp only [World.size_alloc, World.size_setCell, World.size_drew] at hz1)))
            go_ret
            exact ⟨rfl, HBW.out.trans (Below.mono (by (repeat (first | (with_reducible exact Below.refl _ _) | ((with_reducible refine Below.alloc ?_ ?hB _); (case hB => (first | omega | (simp; done) | (simp; omega)))) | ((with_reducible refine Below.setCell ?_ ?hB _); (case hB => (first | omega | (simp; done) | (simp; omega)))) | (with_reducible refine Below.drew ?_) | ((with_reducible refine below_ext_of ?_ ?hB); (case hB => (first | omega | (simp; done) | (simp; omega)))) | ((with_reducible refine Below.trans ?_ (Below.mono (by assumption) ?hB)); (case hB => (first | omega | (simp; done) | (simp; omega))))))) hzw)⟩
  · have h12' : (f.size : Int) > 12 := by omega
    have h13 : (12 : Int) ≤ (f.size : Int) := by omega
    have hfs : (f.extract 0 12).size ≤ 12 := by rw [ByteArray.size_extract]; omega
    have cL := fun w => ref_Letters (f.extract 0 12) w (by omega)
    have hg8 := hg8 (f.extract 0 12)
    go_enter Try.func13, Try.ntmps13
    obtain ⟨f2, hf2'⟩ : ∃ f2, f.extract 0 12 = f2 := ⟨_, rfl⟩
    rw [hf2'] at cL hg8 hfs
    go_upto_region 3 with fail
    clear hf2'
    obtain ⟨g, hg⟩ : ∃ g, lettersP f2 = g := ⟨_, rfl⟩
    have HP := Lib.hid (round_pure f2 (fewL l) 0 hbd.out)
    have HS := Lib.hid (show noSB g g.size = true → sizeP g = ((catB (goodL g (fewL l)) g.size).length : Int) from fun hn => size_good g (fewL l) (hg ▸ letters_form f2) hn)
    have HF := Lib.hid (show formP g = true from hg ▸ letters_form f2)
    rw [hg] at HP hg8 cL
    have cG := fun w => args_Size g w (by omega)
    have cQ := fun w => args_Size f2 w (by omega)
    have cR := fun w => ref_Form f2 w (by omega)
    have h8 := HP.out.size
    go_wp2_with (first | (go_at_call 15; (with_reducible refine (cL _).mono ?_); rintro e w1 ⟨rfl, rfl⟩) | (go_at_call 53; (with_reducible refine (cG _).mono ?_); rintro e w5 ⟨rfl, hb5⟩; have hz5 := hb5.size) | (go_at_call 14; (with_reducible refine (law_fewP _ _ _ _ hc hz (hr.below ?_) hok).mono ?_); (focus ((repeat (first | (with_reducible exact Below.refl _ _) | ((with_reducible refine Below.alloc ?_ ?hB _); (case hB => (first | omega | (simp; done) | (simp; omega)))) | ((with_reducible refine Below.setCell ?_ ?hB _); (case hB => (first | omega | (simp; done) | (simp; omega)))) | (with_reducible refine Below.drew ?_) | ((with_reducible refine below_ext_of ?_ ?hB); (case hB => (first | omega | (simp; done) | (simp; omega)))) | ((with_reducible refine Below.trans ?_ (Below.mono (by assumption) ?hB)); (case hB => (first | omega | (simp; done) | (simp; omega)))))); done)); rintro e w1 ⟨A1, c1, rfl, hf1, hb1⟩; have hz1 := hb1.size; replace hf1 := Lib.hid hf1) | (go_at_call 16; (with_reducible refine (ref_GoodP _ _ _ _ _ hg8 hf1.out.1 hl10 hf1.out.2 hbd.out).mono ?_); rintro e w2 ⟨A2, c2, rfl, hf2, hb2⟩; have hz2 := hb2.size; replace hf2 := Lib.hid hf2))
    obtain ⟨l2, hl2⟩ : ∃ l2, goodL g (fewL l) = l2 := ⟨_, rfl⟩
    rw [hl2] at HP HS hf2 ⊢
    obtain ⟨b, hb⟩ : ∃ b, catB l2 g.size = b := ⟨_, rfl⟩
    rw [hb] at HP HS
    clear hg hl2 hb hok hr hl10 hg8 cL
    go_wp2_with (first | (go_at_call 19; (with_reducible refine (ref_PackB _ _ _ _ _ _ HP.out.byt HP.out.pack hf2.out.1 (by omega) HP.out.ok hf2.out.2).mono ?_); rintro e w4 ⟨A4, c4, rfl, hs4, hb4⟩; have hz4 := hb4.size))
    clear cG
    go_loopw [10, 11] (fun v i wr => ∃ j : Nat, j ≤ g.size ∧ i = .int .i64 j ∧ v = .bool (noSB g j) ∧ Below w4.heap.size w4 wr) (fun _ i _ => g.size - (intOf i).toNat)
    case atStart => exact ⟨0, by omega, rfl, by rw [show noSB g 0 = true from decide_eq_true (fun i hi => by omega)], Below.refl _ _⟩
    case round =>
      obtain ⟨j, hj, rfl, rfl, hbq⟩ := hrel
      have hzq := hbq.size
      by_cases hjl : j < g.size
      · have it := fun w => idx_string g j hjl w
        have eb := byN_at g j hjl
        have HN := Lib.hid (noSB_succ g j)
        cases hv : noSB g j
        · rw [hv] at HN
          go_wp2
          go_roundw
          case rel => exact ⟨j + 1, by omega, by go_num, by rw [HN.out]; rfl, hbq⟩
          case measure => simp [intOf]; omega
        · rw [hv] at HN
          by_cases h1 : byN g j = 115
          · have e1 : (byN g j != 115) = false := by simp [h1]
            have H2 := Lib.hid (show noSB g (j + 1) = false from by rw [HN.out]; simp [h1])
            clear h1 HN
            go_wp2
            go_roundw
            case rel => exact ⟨j + 1, by omega, by go_num, by rw [H2.out], hbq⟩
            case measure => simp [intOf]; omega
          · have e1 : (byN g j != 115) = true := by simp [h1]
            by_cases h2 : byN g j = 98
            · have e2 : (byN g j != 98) = false := by simp [h2]
              have H2 := Lib.hid (show noSB g (j + 1) = false from by rw [HN.out]; simp [h2])
              clear h1 h2 HN
              go_wp2
              go_roundw
              case rel => exact ⟨j + 1, by omega, by go_num, by rw [H2.out], hbq⟩
              case measure => simp [intOf]; omega
            · have e2 : (byN g j != 98) = true := by simp [h2]
              have H2 := Lib.hid (show noSB g (j + 1) = true from by rw [HN.out]; simp [h1, h2])
              clear h1 h2 HN
              go_wp2
              go_roundw
              case rel => exact ⟨j + 1, by omega, by go_num, by rw [H2.out], hbq⟩
              case measure => simp [intOf]; omega
      · obtain rfl : j = g.size := by omega
        have HBW := Lib.hid (show Below w.heap.size w wr from by (repeat (first | (with_reducible exact Below.refl _ _) | ((with_reducible refine Below.alloc ?_ ?hB _); (case hB => (first | omega | (simp; done) | (simp; omega)))) | ((with_reducible refine Below.setCell ?_ ?hB _); (case hB => (first | omega | (simp; done) | (simp; omega)))) | (with_reducible refine Below.drew ?_) | ((with_reducible refine below_ext_of ?_ ?hB); (case hB => (first | omega | (simp; done) | (simp; omega)))) | ((with_reducible refine Below.trans ?_ (Below.mono (by assumption) ?hB)); (case hB => (first | omega | (simp; done) | (simp; omega)))))))
        have hzw : w.heap.size ≤ wr.heap.size := by omega
        have hfx : fixP g = noSB g g.size := by unfold fixP; rw [HF.out]; rfl
        have hs0 : noSB g g.size = false → sizeP g = 0 := fun h => by unfold sizeP; rw [hfx, h]; rfl
        have hq : formP f2 = false → sizeP f2 = 0 ∧ fixP f2 = false := fun h => by
          have : fixP f2 = false := by unfold fixP; rw [h]; rfl
          exact ⟨by unfold sizeP; rw [this]; rfl, this⟩
        have HQ := Lib.hid hq
        clear hb1 hb2 hb4 hb5 hbq hzq hz1 hz2 hz4 hz5 hq
        cases hn : noSB g g.size
        · rw [hn] at hfx
          have hs := hs0 hn
          clear hs0
          cases hfm : formP f2
          · have hqq := HQ.out hfm
            rw [hqq.1, hqq.2] at cQ
            rw [hfm] at cR
            clear hqq hfm hn
            go_wp2_with (first | (go_at_call 53; (with_reducible refine (cQ _).mono ?_); rintro e w6 ⟨rfl, hb6⟩; have hz6 := hb6.size) | (go_at_call 21; (with_reducible refine (cR _).mono ?_); rintro e w1 ⟨rfl, rfl⟩) | (go_at_call 22; (with_reducible refine (args_lives _).mono ?_); rintro e w1 ⟨rfl, hb1⟩; obtain ⟨hc1, hf1⟩ := bcell hb1; have hz1 := hb1.size; (try simp only [World.size_alloc, World.size_setCell, World.size_drew] at hz1)))
            go_ret
            exact ⟨rfl, HBW.out.trans (Below.mono (by (repeat (first | (with_reducible exact Below.refl _ _) | ((with_reducible refine Below.alloc ?_ ?hB _); (case hB => (first | omega | (simp; done) | (simp; omega)))) | ((with_reducible refine Below.setCell ?_ ?hB _); (case hB => (first | omega | (simp; done) | (simp; omega)))) | (with_reducible refine Below.drew ?_) | ((with_reducible refine below_ext_of ?_ ?hB); (case hB => (first | omega | (simp; done) | (simp; omega)))) | ((with_reducible refine Below.trans ?_ (Below.mono (by assumption) ?hB)); (case hB => (first | omega | (simp; done) | (simp; omega))))))) hzw)⟩
          · rw [hfm] at cR
            clear hfm hn
            go_wp2_with (first | (go_at_call 53; (with_reducible refine (cQ _).mono ?_); rintro e w6 ⟨rfl, hb6⟩; have hz6 := hb6.size) | (go_at_call 21; (with_reducible refine (cR _).mono ?_); rintro e w1 ⟨rfl, rfl⟩) | (go_at_call 22; (with_reducible refine (args_lives _).mono ?_); rintro e w1 ⟨rfl, hb1⟩; obtain ⟨hc1, hf1⟩ := bcell hb1; have hz1 := hb1.size; (try simp only [World.size_alloc, World.size_setCell, World.size_drew] at hz1)))
            go_ret
            exact ⟨rfl, HBW.out.trans (Below.mono (by (repeat (first | (with_reducible exact Below.refl _ _) | ((with_reducible refine Below.alloc ?_ ?hB _); (case hB => (first | omega | (simp; done) | (simp; omega)))) | ((with_reducible refine Below.setCell ?_ ?hB _); (case hB => (first | omega | (simp; done) | (simp; omega)))) | (with_reducible refine Below.drew ?_) | ((with_reducible refine below_ext_of ?_ ?hB); (case hB => (first | omega | (simp; done) | (simp; omega)))) | ((with_reducible refine Below.trans ?_ (Below.mono (by assumption) ?hB)); (case hB => (first | omega | (simp; done) | (simp; omega))))))) hzw)⟩
        · rw [hn] at hfx
          have hs : (sizeP g == (b.length : Int)) = true := by rw [HS.out hn]; simp
          clear hs0
          cases hfm : formP f2
          · have hqq := HQ.out hfm
            rw [hqq.1, hqq.2] at cQ
            rw [hfm] at cR
            clear hqq hfm hn
            go_wp2_with (first | (go_at_call 53; (with_reducible refine (cQ _).mono ?_); rintro e w6 ⟨rfl, hb6⟩; have hz6 := hb6.size) | (go_at_call 21; (with_reducible refine (cR _).mono ?_); rintro e w1 ⟨rfl, rfl⟩) | (go_at_call 22; (with_reducible refine (args_lives _).mono ?_); rintro e w1 ⟨rfl, hb1⟩; obtain ⟨hc1, hf1⟩ := bcell hb1; have hz1 := hb1.size; (try simp only [World.size_alloc, World.size_setCell, World.size_drew] at hz1)))
            go_ret
            exact ⟨rfl, HBW.out.trans (Below.mono (by (repeat (first | (with_reducible exact Below.refl _ _) | ((with_reducible refine Below.alloc ?_ ?hB _); (case hB => (first | omega | (simp; done) | (simp; omega)))) | ((with_reducible refine Below.setCell ?_ ?hB _); (case hB => (first | omega | (simp; done) | (simp; omega)))) | (with_reducible refine Below.drew ?_) | ((with_reducible refine below_ext_of ?_ ?hB); (case hB => (first | omega | (simp; done) | (simp; omega)))) | ((with_reducible refine Below.trans ?_ (Below.mono (by assumption) ?hB)); (case hB => (first | omega | (simp; done) | (simp; omega))))))) hzw)⟩
          · rw [hfm] at cR
            clear hfm hn
            go_wp2_with (first | (go_at_call 53; (with_reducible refine (cQ _).mono ?_); rintro e w6 ⟨rfl, hb6⟩; have hz6 := hb6.size) | (go_at_call 21; (with_reducible refine (cR _).mono ?_); rintro e w1 ⟨rfl, rfl⟩) | (go_at_call 22; (with_reducible refine (args_lives _).mono ?_); rintro e w1 ⟨rfl, hb1⟩; obtain ⟨hc1, hf1⟩ := bcell hb1; have hz1 := hb1.size; (try simp only [World.size_alloc, World.size_setCell, World.size_drew] at hz1)))
            go_ret
            exact ⟨rfl, HBW.out.trans (Below.mono (by (repeat (first | (with_reducible exact Below.refl _ _) | ((with_reducible refine Below.alloc ?_ ?hB _); (case hB => (first | omega | (simp; done) | (simp; omega)))) | ((with_reducible refine Below.setCell ?_ ?hB _); (case hB => (first | omega | (simp; done) | (simp; omega)))) | (with_reducible refine Below.drew ?_) | ((with_reducible refine below_ext_of ?_ ?hB); (case hB => (first | omega | (simp; done) | (simp; omega)))) | ((with_reducible refine Below.trans ?_ (Below.mono (by assumption) ?hB)); (case hB => (first | omega | (simp; done) | (simp; omega))))))) hzw)⟩
end Go.Proofs.Yteldbnelfeiifaa
