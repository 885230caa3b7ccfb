/- The law ArgsApart, walked. -/
import Derived.Test.YteldbnelfeiifaaArgQ
namespace Go.Proofs.Yteldbnelfeiifaa
open Go.RowKit Go.Proofs.YteldbnelfeiifaaW.PrintWords
set_option linter.unusedSimpArgs false
set_option linter.unusedVariables false
set_option maxRecDepth 1000000
set_option maxHeartbeats 20000000 in
theorem walk_ArgsApart (f : ByteArray) (A : Option Addr) (l : List V8) (c : Nat) (at_ nn : Int) (w : World) (hf : f.size ≤ 9223372036854775807) (hc : l.length ≤ c) (hz : l.length ≤ 9223372036854775807) (hr : VRow w A l) (hok : ∀ i, i < l.length → (at8 l i).Bd) (hat : -9223372036854775808 ≤ at_ ∧ at_ ≤ 9223372036854775807) (hnn : -9223372036854775808 ≤ nn ∧ nn ≤ 9223372036854775807) :
    Calls Try.prog 4 #[.string f, .slice A l.length c, .int .i64 at_, .int .i64 nn] w fun e w' => e = .returned (.bool true) ∧ Below w.heap.size w w' := by
  have hbd := few_bd hok
  have hl10 : (fewL l).length ≤ 1000000 := by rw [fewL_len]; omega
  obtain ⟨g, hg⟩ : ∃ g, g = lettersP f := ⟨_, rfl⟩
  have hg8 : g.size ≤ 1000000 := by have := lettersP_size f; rw [hg]; omega
  have cl := fun w => ref_Letters f w hf
  rw [← hg] at cl
  have HG := Lib.hid hg
  clear hg
  have H2 := good_allok (f := g) hbd
  have hn : (goodL g (fewL l)).length = g.size := goodL_len _ _
  by_cases h0 : g.size = 0
  · have hP := pack_good f (fewL l)
    rw [← HG.out] at hP
    have hcat : catB (goodL g (fewL l)) g.size = [] := by rw [h0]; rfl
    rw [hcat] at hP
    have hle : (goodL g (fewL l)).length ≤ 0 := by omega
    have hg14 : g.size ≤ 140737488351232 := by omega
    have H2' := Lib.hid H2
    have HP := Lib.hid hP
    clear hcat hn H2 hP h0
    go_enter Try.func4, Try.ntmps4
    go_wp2_with (first | (go_at_call 15; (with_reducible refine (cl _).mono ?_); rintro e w1 ⟨rfl, rfl⟩) | (go_at_call 14; (with_reducible refine (law_fewP _ _ _ _ hc hz (hr.below ?_) hok).mono ?_); (focus ((repeat (first | (with_reducible exact Below.refl _ _) | ((with_reducible refine Below.alloc ?_ ?hB _); (case hB => (first | omega | (simp; done) | (simp; omega)))) | ((with_reducible refine Below.setCell ?_ ?hB _); (case hB => (first | omega | (simp; done) | (simp; omega)))) | (with_reducible refine Below.drew ?_) | ((with_reducible refine below_ext_of ?_ ?hB); (case hB => (first | omega | (simp; done) | (simp; omega)))) | ((with_reducible refine Below.trans ?_ (Below.mono (by assumption) ?hB)); (case hB => (first | omega | (simp; done) | (simp; omega)))))); done)); rintro e w1 ⟨A1, c1, rfl, hf1, hb1⟩; have hz1 := hb1.size))
    go_at_call 16
    refine (ref_GoodP _ _ _ _ _ hg8 hf1.1 hl10 hf1.2 hbd).mono ?_
    rintro e w2 ⟨A2, c2, rfl, hf2, hb2⟩
    have hz2 := hb2.size
    go_wp2_with (first | (go_at_call 14; (with_reducible refine (law_fewP _ _ _ _ hc hz (hr.below ?_) hok).mono ?_); (focus ((repeat (first | (with_reducible exact Below.refl _ _) | ((with_reducible refine Below.alloc ?_ ?hB _); (case hB => (first | omega | (simp; done) | (simp; omega)))) | ((with_reducible refine Below.setCell ?_ ?hB _); (case hB => (first | omega | (simp; done) | (simp; omega)))) | (with_reducible refine Below.drew ?_) | ((with_reducible refine below_ext_of ?_ ?hB); (case hB => (first | omega | (simp; done) | (simp; omega)))) | ((with_reducible refine Below.trans ?_ (Below.mono (by assumption) ?hB)); (case hB => (first | omega | (simp; done) | (simp; omega)))))); done)); rintro e w3 ⟨A3, c3, rfl, hf3, hb3⟩; have hz3 := hb3.size))
    go_at_call 16
    refine (ref_GoodP _ _ _ _ _ hg8 hf3.1 hl10 hf3.2 hbd).mono ?_
    rintro e w4 ⟨A4, c4, rfl, hf4, hb4⟩
    have hz4 := hb4.size
    have BW := Lib.hid (hb1.trans ((hb2.trans ((hb3.trans (hb4.mono hz3)).mono hz2)).mono hz1))
    have F2 := Lib.hid hf2
    have F4 := Lib.hid hf4
    have B24 := Lib.hid (hb3.trans (hb4.mono hz3))
    generalize goodL g (fewL l) = l2 at *
    clear hf1 hf3 hr hok hb1 hb2 hb3 hb4 hf2 hf4 hbd hl10
    go_wp2_with fail
    refine wp_loop_rounds 1 ?_
    rw [rounds_succ]
    go_wp2_with (first | (go_at_call 18; (with_reducible refine (law_allP A2 _ _ _ F2.out.1 (by omega) (F2.out.2.below ?_)).mono ?_); (focus (exact B24.out)); rintro e w6 ⟨A6, c6, rfl, hr6, hb6⟩; have hz6 := hb6.size))
    refine (args_PackOk g _ l2 _ _ _ HP.out hr6.1 hg14 H2'.out hr6.2).mono ?_
    rintro e w7 ⟨A7, c7, rfl, hr7, hb7⟩
    have hz7 := hb7.size
    clear hr6
    go_wp2_with (first | (go_at_call 18; (with_reducible refine (law_allP A4 _ _ _ F4.out.1 (by omega) (F4.out.2.below ?_)).mono ?_); (focus (exact hb6.trans (hb7.mono hz6))); rintro e w8 ⟨A8, c8, rfl, hr8, hb8⟩; have hz8 := hb8.size))
    refine (args_PackOk g _ l2 _ _ _ HP.out hr8.1 hg14 H2'.out hr8.2).mono ?_
    rintro e w9 ⟨A9, c9, rfl, hr9, hb9⟩
    have hz9 := hb9.size
    have s7 := str_reads (c := c7) (hr7.below (hb8.trans (hb9.mono hz8)))
    have s9 := str_reads (c := c9) hr9
    clear hr8 hr7 hr9
    have BB := Lib.hid (BW.out.trans ((hb6.trans ((hb7.trans ((hb8.trans (hb9.mono hz8)).mono hz7)).mono hz6)).mono BW.out.size))
    simp only [List.length_nil] at s7 s9
    generalize strOfNums [] = sx at *
    go_wp2_with (first | (go_at_call 22; (with_reducible refine (args_lives _).mono ?_); rintro e w1 ⟨rfl, hb1⟩; obtain ⟨hc1, hf1⟩ := bcell hb1; have hz1 := hb1.size; (try simp only [World.size_alloc, World.size_setCell, World.size_drew] at hz1)))
    go_ret
    exact ⟨rfl, BB.out.trans (hb1.mono BB.out.size)⟩
  · have hpos : 0 < (goodL g (fewL l)).length := by omega
    have hlt := Int.tmod_lt_of_pos at_ (show (0 : Int) < (g.size : Int) by omega)
    have hge : -(g.size : Int) < Int.tmod at_ (g.size : Int) := by
      by_cases h : 0 ≤ at_
      · have := Int.tmod_nonneg (g.size : Int) h; omega
      · have h1 := Int.tmod_nonneg (g.size : Int) (show 0 ≤ -at_ by omega)
        have h3 := Int.tmod_lt_of_pos (-at_) (show (0 : Int) < (g.size : Int) by omega)
        rw [Int.neg_tmod] at h1 h3; omega
    obtain ⟨q, hq⟩ : ∃ q, Int.tmod at_ (g.size : Int) = q := ⟨_, rfl⟩
    rw [hq] at hlt hge
    obtain ⟨kk, hkk⟩ : ∃ kk : Nat, max q (-q) = (kk : Int) := ⟨(max q (-q)).toNat, by omega⟩
    have hkn : kk < g.size := by omega
    obtain ⟨qn, hqn⟩ : ∃ qn, Int.tmod nn 2147483648 = qn := ⟨_, rfl⟩
    have hqb : -2147483648 < qn ∧ qn < 2147483648 := by rw [← hqn]; exact tm_bd nn
    obtain ⟨hqb1, hqb2⟩ := hqb
    obtain ⟨qm, hqm⟩ : ∃ qm, max qn (-qn) = qm := ⟨_, rfl⟩
    have it := fun w => idx_string g kk hkn w
    have eb := byN_at g kk hkn
    have HLN := Lib.hid hn
    go_enter Try.func4, Try.ntmps4
    go_wp2_with (first | (go_at_call 15; (with_reducible refine (cl _).mono ?_); rintro e w1 ⟨rfl, rfl⟩) | (go_at_call 14; (with_reducible refine (law_fewP _ _ _ _ hc hz (hr.below ?_) hok).mono ?_); (focus ((repeat (first | (with_reducible exact Below.refl _ _) | ((with_reducible refine Below.alloc ?_ ?hB _); (case hB => (first | omega | (simp; done) | (simp; omega)))) | ((with_reducible refine Below.setCell ?_ ?hB _); (case hB => (first | omega | (simp; done) | (simp; omega)))) | (with_reducible refine Below.drew ?_) | ((with_reducible refine below_ext_of ?_ ?hB); (case hB => (first | omega | (simp; done) | (simp; omega)))) | ((with_reducible refine Below.trans ?_ (Below.mono (by assumption) ?hB)); (case hB => (first | omega | (simp; done) | (simp; omega)))))); done)); rintro e w1 ⟨A1, c1, rfl, hf1, hb1⟩; have hz1 := hb1.size))
    go_wp2_with (first | (go_at_call 16; (with_reducible refine (ref_GoodO _ _ _ _ _ hg8 hf1.1 hl10 hf1.2 hbd).mono ?_); rintro e w2 ⟨v2, rfl, ho2, hb2⟩; have hz2 := hb2.size; obtain ⟨g2, c2, L2, rfl, hc2, hL2, hw2⟩ := OwnL.of ho2 hpos; clear ho2))
    go_wp2_with (first | (go_at_call 14; (with_reducible refine (law_fewP _ _ _ _ hc hz (hr.below ?_) hok).mono ?_); (focus ((repeat (first | (with_reducible exact Below.refl _ _) | ((with_reducible refine Below.alloc ?_ ?hB _); (case hB => (first | omega | (simp; done) | (simp; omega)))) | ((with_reducible refine Below.setCell ?_ ?hB _); (case hB => (first | omega | (simp; done) | (simp; omega)))) | (with_reducible refine Below.drew ?_) | ((with_reducible refine below_ext_of ?_ ?hB); (case hB => (first | omega | (simp; done) | (simp; omega)))) | ((with_reducible refine Below.trans ?_ (Below.mono (by assumption) ?hB)); (case hB => (first | omega | (simp; done) | (simp; omega)))))); done)); rintro e w3 ⟨A3, c3, rfl, hf3, hb3⟩; have hz3 := hb3.size))
    go_at_call 16
    refine (ref_GoodO _ _ _ _ _ hg8 hf3.1 hl10 hf3.2 hbd).mono ?_
    rintro e w4 ⟨v4, rfl, ho4, hb4⟩
    have hz4 := hb4.size
    obtain ⟨g4, c4, L4, rfl, hc4, hL4, hw4⟩ := OwnL.of ho4 hpos
    clear ho4
    have hge := hw4.ge
    have hlen4 : L4.length = g.size := by have := congrArg List.length hL4; simpa [hn] using this
    have hlen2 : L2.length = g.size := by have := congrArg List.length hL2; simpa [hn] using this
    have hx2 : VRow w2 (some ⟨g2, 0, none⟩) (goodL g (fewL l)) := by
      have := hw2.row hb2
      rw [hL2] at this; exact this
    have B24 := Lib.hid (hb3.trans (hb4.mono hz3))
    have B34 := Lib.hid hb4
    have B13 := Lib.hid (hb2.trans (hb3.mono hz2))
    have hg4w : w3.heap.size ≤ g4 := hge.1
    have hy1 := hw4.get kk 1 (by omega) (by omega)
    obtain ⟨y, hy⟩ : ∃ y, y = L4[kk]'(by omega) := ⟨_, rfl⟩
    rw [← hy] at hy1
    have hy1' : w4.cell? ⟨g4, kk * 8 + 1, none⟩ = some (.int .i64 y.x.n) := hy1
    have fy1 := hw4.free (kk * 8 + 1)
    have hBw : Below w.heap.size w w3 := hb1.trans ((hb2.trans (hb3.mono hz2)).mono hz1)
    have hBw4 : Below w.heap.size w w4 := hBw.trans (hb4.mono hBw.size)
    by_cases c105 : byN g kk = 105
    · have t1 : (byN g kk == 105) = true := by simp [c105]
      have t2 : (byN g kk != 105) = false := by simp [c105]
      have HB4 := Lib.hid hBw4
      have HX2 := Lib.hid hx2
      have HG4 : Hid (w.heap.size ≤ (⟨g4, kk * 8 + 1, none⟩ : Addr).block) := Lib.hid (show w.heap.size ≤ g4 by have := hBw.size; omega)
      have C105 := Lib.hid c105
      have HY := Lib.hid hy
      clear hy1 hBw hBw4 hx2 c105 hy hr hok hf1 hf3 hb1 hb2 hb3 hb4 hc hz
      have hW5 := hw4.set kk 1 (.int .i64 qn) ⟨{ y.x with n := qn }, y.A, y.m⟩ (by omega) (by omega) (by rw [← HY.out]; rfl) (by
        have := hw4.2 y (by rw [HY.out]; exact List.getElem_mem _)
        exact this)
      have HW5 := Lib.hid hW5
      have hl2 : (L4.set kk ⟨{ y.x with n := qn }, y.A, y.m⟩).map (·.x) = setN (goodL g (fewL l)) kk qn := by
        rw [← hL4]
        unfold setN
        rw [List.map_set]
        have e : at8 (L4.map (·.x)) kk = y.x := by
          unfold at8; rw [List.getD_eq_getElem?_getD, List.getElem?_map, List.getElem?_eq_getElem (by omega), HY.out]; rfl
        rw [e]
      have AP := apart_pure f (fewL l) kk qn g HG.out hkn H2 (.inl ⟨C105.out, by omega, by omega⟩)
      have hrowy : VRow (w4.setCell ⟨g4, kk * 8 + 1, none⟩ (.int .i64 qn)) (some ⟨g4, 0, none⟩) (setN (goodL g (fewL l)) kk qn) := by
        rw [← hl2]; exact HW5.out.row (B34.out.setCell (p := ⟨g4, kk * 8 + 1, none⟩) hg4w _)
      have hrowx : VRow (w4.setCell ⟨g4, kk * 8 + 1, none⟩ (.int .i64 qn)) (some ⟨g2, 0, none⟩) (goodL g (fewL l)) := HX2.out.below (B24.out.setCell (p := ⟨g4, kk * 8 + 1, none⟩) (Nat.le_trans hz3 hg4w) _)
      have hbel : Below w.heap.size w (w4.setCell ⟨g4, kk * 8 + 1, none⟩ (.int .i64 qn)) := HB4.out.setCell HG4.out _
      have HAP := Lib.hid AP
      have OKX := Lib.hid H2
      clear hW5 HW5 hl2 hw4 hL4 hw2 hL2 H2 HY AP HX2 hpos
      generalize goodL g (fewL l) = l2 at *
      have HRX := Lib.hid hrowx
      have HRY := Lib.hid hrowy
      have HBL := Lib.hid hbel
      clear hrowx hrowy hbel
      have AP := HAP.out
      go_wp2_with fail
      go_loopw [13, 14] (fun v i wr => ∃ (k : Nat) (b : Bool), k ≤ g.size ∧ i = .int .i64 k ∧ v = .bool b ∧ Hid (b = decide (k ≤ kk ∨ (at8 l2 kk).n = qn)) ∧ VRow wr (some ⟨g2, 0, none⟩) l2 ∧ VRow wr (some ⟨g4, 0, none⟩) (setN l2 kk qn) ∧ Below w.heap.size w wr) (fun _ i _ => g.size - (intOf i).toNat)
      case atStart => exact ⟨0, true, by omega, rfl, rfl, Lib.hid (by simp), HRX.out, HRY.out, HBL.out⟩
      case round =>
        obtain ⟨k, b, hk, rfl, rfl, hbv, hX, hY, hbr⟩ := hrel
        have hzr := hbr.size
        by_cases hlt : k < g.size
        · obtain ⟨adx, Ax, mx, ex, f0, f1, f2, f3, f4, f5, f6, f7, hmx, hrx⟩ := hX k (by omega)
          obtain ⟨ady, Ay, my, ey, e0, e1, e2, e3, e4, e5, e6, e7, hmy, hry⟩ := hY k (by rw [setN_len]; omega)
          cases ex
          cases ey
          simp only [add_p] at f0 f1 f2 f3 f4 f5 f6 f7 e0 e1 e2 e3 e4 e5 e6 e7
          have hg2 : g2 < wr.heap.size := World.block_lt_of_cell? _ _ f0
          have hg4 : g4 < wr.heap.size := World.block_lt_of_cell? _ _ e0
          have HX := Lib.hid hX
          have HY' := Lib.hid hY
          clear hX hY
          cases b
          · have HN := Lib.hid (show false = decide (k + 1 ≤ kk ∨ (at8 l2 kk).n = qn) from by
              have := of_decide_eq_false hbv.out.symm
              symm; rw [decide_eq_false_iff_not]; omega)
            clear f0 f1 f2 f3 f4 f5 f6 f7 e0 e1 e2 e3 e4 e5 e6 e7 hrx hry
            go_wp2_with fail
            (refine wp_region_ext_lit (by kernel_rfl) (by kernel_rfl) ?_; (repeat (go_big_quiet_step ((fail)))); refine wpQuiet_nil ?_; intro w6 hb_w6; obtain ⟨hc_w6, hf_w6⟩ := bcell hb_w6; have hz_w6 := hb_w6.size; (try simp only [World.size_alloc, World.size_setCell, World.size_drew] at hz_w6))
            go_wp2_with fail
            go_roundw
            case rel => exact ⟨k + 1, false, by omega, by go_num, rfl, HN, HX.out.below hb_w6, HY'.out.below hb_w6, hbr.trans (hb_w6.mono hbr.size)⟩
            case measure => simp [intOf]; omega
          · by_cases hpart : k = kk ∧ ¬ (at8 l2 kk).n = qn
            · obtain ⟨rfl, hd⟩ := hpart
              have HN := Lib.hid (show false = decide (k + 1 ≤ k ∨ (at8 l2 k).n = qn) from by symm; rw [decide_eq_false_iff_not]; omega)
              have hyk : at8 (setN l2 k qn) k = { at8 l2 k with n := qn } := setN_at l2 k qn (by omega)
              have cs := fun w => ref_SameNo (at8 l2 k) (at8 (setN l2 k qn) k) Ax Ay mx my w (by rw [hyk]) (by rw [hyk]; exact hd)
              clear hyk hrx hry hd
              generalize at8 (setN l2 k qn) k = yy at *
              generalize at8 l2 k = xx at *
              go_wp2_with fail
              (refine wp_region_ext_lit (by kernel_rfl) (by kernel_rfl) ?_; (repeat (go_big_quiet_step ((first | (go_at_call 23; exact ext_call (cs _)))))); refine wpQuiet_nil ?_; intro w6 hb_w6; obtain ⟨hc_w6, hf_w6⟩ := bcell hb_w6; have hz_w6 := hb_w6.size; (try simp only [World.size_alloc, World.size_setCell, World.size_drew] at hz_w6))
              go_wp2_with fail
              go_roundw
              case rel => exact ⟨k + 1, false, by omega, by go_num, rfl, HN, HX.out.below hb_w6, HY'.out.below hb_w6, hbr.trans (hb_w6.mono hbr.size)⟩
              case measure => simp [intOf]; omega
            · have HN := Lib.hid (show true = decide (k + 1 ≤ kk ∨ (at8 l2 kk).n = qn) from by
                have := of_decide_eq_true hbv.out.symm
                symm; rw [decide_eq_true_iff]; omega)
              have hyk : at8 (setN l2 kk qn) k = at8 l2 k := by
                by_cases e : k = kk
                · subst e
                  have e2 : (at8 l2 k).n = qn := by
                    by_cases h : (at8 l2 k).n = qn
                    · exact h
                    · exact absurd ⟨rfl, h⟩ hpart
                  rw [← e2, setN_own l2 k (by omega)]
                · exact setN_ne l2 kk k _ e
              rw [hyk] at e0 e1 e2 e3 e4 e5 e6 e7 hry
              have cs := fun x => ref_SameYes (at8 l2 k) Ax Ay mx my (ext wr x) (hrx.below (below_ext wr x)) (hry.below (below_ext wr x))
              clear hyk hrx hry hpart
              generalize at8 l2 k = xx at *
              go_wp2_with fail
              (refine wp_region_ext_lit (by kernel_rfl) (by kernel_rfl) ?_; (repeat (go_big_quiet_step ((first | (go_at_call 23; exact ext_call (cs _)))))); refine wpQuiet_nil ?_; intro w6 hb_w6; obtain ⟨hc_w6, hf_w6⟩ := bcell hb_w6; have hz_w6 := hb_w6.size; (try simp only [World.size_alloc, World.size_setCell, World.size_drew] at hz_w6))
              go_wp2_with fail
              go_roundw
              case rel => exact ⟨k + 1, true, by omega, by go_num, rfl, HN, HX.out.below hb_w6, HY'.out.below hb_w6, hbr.trans (hb_w6.mono hbr.size)⟩
              case measure => simp [intOf]; omega
        · obtain rfl : k = g.size := by omega
          have HX := Lib.hid hX
          have HY' := Lib.hid hY
          have hbx : b = decide ((at8 l2 kk).n = qn) := by rw [hbv.out]; exact decide_eq_decide.2 (by omega)
          have hcx : l2.length ≤ c2 := hc2
          have hcy : (setN l2 kk qn).length ≤ c4 := by rw [setN_len]; exact hc4
          have h1m : l2.length ≤ 1000000 := by omega
          have h1m' : (setN l2 kk qn).length ≤ 1000000 := by rw [setN_len]; exact h1m
          have hsy : g.size = (setN l2 kk qn).length := by rw [setN_len]; exact HLN.out.symm
          have hsx : g.size = l2.length := HLN.out.symm
          have cx := fun w' (h : Below wr.heap.size wr w') => law_allN (some ⟨g2, 0, none⟩) l2 g.size c2 w' hsx hcx h1m (HX.out.below h)
          have cy := fun w' (h : Below wr.heap.size wr w') => law_allN (some ⟨g4, 0, none⟩) (setN l2 kk qn) g.size c4 w' hsy hcy h1m' (HY'.out.below h)
          have hPx := AP.px
          have hPy := AP.py
          have hEq := AP.eq
          have hg14 : g.size ≤ 140737488351232 := by omega
          have CX := Lib.hid cx
          have CY := Lib.hid cy
          clear hX hY hbv hcx hcy hsy hsx cx cy hy1'
          have hse : decide (strOfNums (catB l2 l2.length) = strOfNums (catB (setN l2 kk qn) l2.length)) = b := by rw [hbx]; exact decide_eq_decide.2 hEq
          have hsb := str_beq _ _ _ hse
          have OKY := Lib.hid AP.ok
          have HPX := Lib.hid hPx
          have HPY := Lib.hid hPy
          have HSB := Lib.hid hsb
          clear hse hbx hEq hPx hPy hsb AP hn
          go_wp2_with (first | (go_at_call 18; (with_reducible refine (CX.out _ ?_).mono ?_); (focus ((repeat (first | (with_reducible exact Below.refl _ _) | ((with_reducible refine Below.alloc ?_ ?hB _); (case hB => (first | omega | (simp; done) | (simp; omega)))) | ((with_reducible refine Below.setCell ?_ ?hB _); (case hB => (first | omega | (simp; done) | (simp; omega)))) | (with_reducible refine Below.drew ?_) | ((with_reducible refine below_ext_of ?_ ?hB); (case hB => (first | omega | (simp; done) | (simp; omega)))) | ((with_reducible refine Below.trans ?_ (Below.mono (by assumption) ?hB)); (case hB => (first | omega | (simp; done) | (simp; omega)))))); done)); rintro e w6 ⟨A6, c6, rfl, hr6, hb6⟩; have hz6 := hb6.size))
          refine (args_PackOk g _ l2 _ _ _ HPX.out hr6.1 hg14 OKX.out hr6.2).mono ?_
          rintro e w7 ⟨A7, c7, rfl, hr7, hb7⟩
          have hz7 := hb7.size
          clear hr6
          go_wp2_with (first | (go_at_call 18; (with_reducible refine (CY.out _ ?_).mono ?_); (focus ((repeat (first | (with_reducible exact Below.refl _ _) | ((with_reducible refine Below.alloc ?_ ?hB _); (case hB => (first | omega | (simp; done) | (simp; omega)))) | ((with_reducible refine Below.setCell ?_ ?hB _); (case hB => (first | omega | (simp; done) | (simp; omega)))) | (with_reducible refine Below.drew ?_) | ((with_reducible refine below_ext_of ?_ ?hB); (case hB => (first | omega | (simp; done) | (simp; omega)))) | ((with_reducible refine Below.trans ?_ (Below.mono (by assumption) ?hB)); (case hB => (first | omega | (simp; done) | (simp; omega)))))); done)); rintro e w8 ⟨A8, c8, rfl, hr8, hb8⟩; have hz8 := hb8.size))
          refine (args_PackOk g _ (setN l2 kk qn) _ _ _ HPY.out hr8.1 hg14 OKY.out hr8.2).mono ?_
          rintro e w9 ⟨A9, c9, rfl, hr9, hb9⟩
          have hz9 := hb9.size
          have s7 := str_reads (c := c7) (hr7.below (hb8.trans (hb9.mono hz8)))
          have s9 := str_reads (c := c9) hr9
          clear hr8 hr7 hr9
          have hsb := HSB.out
          have BB := Lib.hid (hbr.trans ((hb6.trans ((hb7.trans ((hb8.trans (hb9.mono hz8)).mono hz7)).mono hz6)).mono hbr.size))
          generalize strOfNums (catB l2 l2.length) = sx at *
          generalize strOfNums (catB (setN l2 kk qn) l2.length) = sy at *
          cases b
          · go_wp2_with (first | (go_at_call 22; (with_reducible refine (args_lives _).mono ?_); rintro e w1 ⟨rfl, hb1⟩; obtain ⟨hc1, hf1⟩ := bcell hb1; have hz1 := hb1.size; (try simp only [World.size_alloc, World.size_setCell, World.size_drew] at hz1)))
            go_ret
            exact ⟨rfl, BB.out.trans (hb1.mono BB.out.size)⟩
          · go_wp2_with (first | (go_at_call 22; (with_reducible refine (args_lives _).mono ?_); rintro e w1 ⟨rfl, hb1⟩; obtain ⟨hc1, hf1⟩ := bcell hb1; have hz1 := hb1.size; (try simp only [World.size_alloc, World.size_setCell, World.size_drew] at hz1)))
            go_ret
            exact ⟨rfl, BB.out.trans (hb1.mono BB.out.size)⟩
    · have t1 : (byN g kk == 105) = false := by simp [c105]
      have t2 : (byN g kk != 105) = true := by simp [c105]
      have HB4 := Lib.hid hBw4
      have HX2 := Lib.hid hx2
      have HG4 : Hid (w.heap.size ≤ (⟨g4, kk * 8 + 1, none⟩ : Addr).block) := Lib.hid (show w.heap.size ≤ g4 by have := hBw.size; omega)
      have C105 := Lib.hid c105
      have HY := Lib.hid hy
      have hg4s : g4 < w4.heap.size := hge.2
      clear hy1 hBw hBw4 hx2 c105 hy hr hok hf1 hf3 hb1 hb2 hb3 hb4 hc hz
      by_cases c117 : byN g kk = 117
      · have t3 : (byN g kk == 117) = true := by simp [c117]
        have t4 : (byN g kk != 117) = false := by simp [c117]
        have C117 := Lib.hid c117
        clear c117
        obtain ⟨mm, hmm⟩ : ∃ mm, mm = qm := ⟨_, rfl⟩
        rw [← hmm] at hqm
        have hm2 : 0 ≤ mm ∧ mm < 2147483648 := by omega
        clear hmm
        go_wp2_with fail
        go_region_with (fail)
        all_goals
          go_wp2_with fail
          have hyr : y.reads w3 := hw4.2 y (by rw [HY.out]; exact List.getElem_mem _)
          have hs0 := hw4.self (k := kk) (by omega)
          rw [← HY.out] at hs0
          have hs1 := hs0.set2 1 (.int .i64 qn) ⟨{ y.x with n := qn }, y.A, y.m⟩ (by omega) (by omega) rfl hyr
          have hW5 := hs1.set2 1 (.int .i64 mm) ⟨{ y.x with n := mm }, y.A, y.m⟩ (by omega) (by omega) rfl hyr
          have HW5 := Lib.hid hW5
          have hl2 : (L4.set kk ⟨{ y.x with n := mm }, y.A, y.m⟩).map (·.x) = setN (goodL g (fewL l)) kk mm := by
            rw [← hL4]
            unfold setN
            rw [List.map_set]
            have e : at8 (L4.map (·.x)) kk = y.x := by
              unfold at8; rw [List.getD_eq_getElem?_getD, List.getElem?_map, List.getElem?_eq_getElem (by omega), HY.out]; rfl
            rw [e]
          have AP := apart_pure f (fewL l) kk mm g HG.out hkn H2 (.inr (.inl ⟨C117.out, by omega, by omega⟩))
          have hrowy : VRow (((w4.setCell ⟨g4, kk * 8 + 1, none⟩ (.int .i64 qn)).setCell ⟨g4, kk * 8 + 1, none⟩ (.int .i64 mm)).drew) (some ⟨g4, 0, none⟩) (setN (goodL g (fewL l)) kk mm) := by
            rw [← hl2]; exact (OwnL.drew HW5.out).row (((B34.out.setCell (p := ⟨g4, kk * 8 + 1, none⟩) hg4w _).setCell (p := ⟨g4, kk * 8 + 1, none⟩) hg4w _).drew)
          have hrowx : VRow (((w4.setCell ⟨g4, kk * 8 + 1, none⟩ (.int .i64 qn)).setCell ⟨g4, kk * 8 + 1, none⟩ (.int .i64 mm)).drew) (some ⟨g2, 0, none⟩) (goodL g (fewL l)) := HX2.out.below (((B24.out.setCell (p := ⟨g4, kk * 8 + 1, none⟩) (Nat.le_trans hz3 hg4w) _).setCell (p := ⟨g4, kk * 8 + 1, none⟩) (Nat.le_trans hz3 hg4w) _).drew)
          have hbel : Below w.heap.size w (((w4.setCell ⟨g4, kk * 8 + 1, none⟩ (.int .i64 qn)).setCell ⟨g4, kk * 8 + 1, none⟩ (.int .i64 mm)).drew) := ((HB4.out.setCell HG4.out _).setCell HG4.out _).drew
          have HAP := Lib.hid AP
          have OKX := Lib.hid H2
          clear hW5 HW5 hl2 hw4 hL4 hw2 hL2 H2 HY AP HX2 hpos hs0 hs1 hyr
          generalize goodL g (fewL l) = l2 at *
          have HRX := Lib.hid hrowx
          have HRY := Lib.hid hrowy
          have HBL := Lib.hid hbel
          clear hrowx hrowy hbel
          have AP := HAP.out
          go_loopw [13, 14] (fun v i wr => ∃ (k : Nat) (b : Bool), k ≤ g.size ∧ i = .int .i64 k ∧ v = .bool b ∧ Hid (b = decide (k ≤ kk ∨ (at8 l2 kk).n = mm)) ∧ VRow wr (some ⟨g2, 0, none⟩) l2 ∧ VRow wr (some ⟨g4, 0, none⟩) (setN l2 kk mm) ∧ Below w.heap.size w wr) (fun _ i _ => g.size - (intOf i).toNat)
          case atStart => exact ⟨0, true, by omega, rfl, rfl, Lib.hid (by simp), HRX.out, HRY.out, HBL.out⟩
          case round =>
            obtain ⟨k, b, hk, rfl, rfl, hbv, hX, hY, hbr⟩ := hrel
            have hzr := hbr.size
            by_cases hlt : k < g.size
            · obtain ⟨adx, Ax, mx, ex, f0, f1, f2, f3, f4, f5, f6, f7, hmx, hrx⟩ := hX k (by omega)
              obtain ⟨ady, Ay, my, ey, e0, e1, e2, e3, e4, e5, e6, e7, hmy, hry⟩ := hY k (by rw [setN_len]; omega)
              cases ex
              cases ey
              simp only [add_p] at f0 f1 f2 f3 f4 f5 f6 f7 e0 e1 e2 e3 e4 e5 e6 e7
              have hg2 : g2 < wr.heap.size := World.block_lt_of_cell? _ _ f0
              have hg4 : g4 < wr.heap.size := World.block_lt_of_cell? _ _ e0
              have HX := Lib.hid hX
              have HY' := Lib.hid hY
              clear hX hY
              cases b
              · have HN := Lib.hid (show false = decide (k + 1 ≤ kk ∨ (at8 l2 kk).n = mm) from by
                  have := of_decide_eq_false hbv.out.symm
                  symm; rw [decide_eq_false_iff_not]; omega)
                clear f0 f1 f2 f3 f4 f5 f6 f7 e0 e1 e2 e3 e4 e5 e6 e7 hrx hry
                go_wp2_with fail
                (refine wp_region_ext_lit (by kernel_rfl) (by kernel_rfl) ?_; (repeat (go_big_quiet_step ((fail)))); refine wpQuiet_nil ?_; intro w6 hb_w6; obtain ⟨hc_w6, hf_w6⟩ := bcell hb_w6; have hz_w6 := hb_w6.size; (try simp only [World.size_alloc, World.size_setCell, World.size_drew] at hz_w6))
                go_wp2_with fail
                go_roundw
                case rel => exact ⟨k + 1, false, by omega, by go_num, rfl, HN, HX.out.below hb_w6, HY'.out.below hb_w6, hbr.trans (hb_w6.mono hbr.size)⟩
                case measure => simp [intOf]; omega
              · by_cases hpart : k = kk ∧ ¬ (at8 l2 kk).n = mm
                · obtain ⟨rfl, hd⟩ := hpart
                  have HN := Lib.hid (show false = decide (k + 1 ≤ k ∨ (at8 l2 k).n = mm) from by symm; rw [decide_eq_false_iff_not]; omega)
                  have hyk : at8 (setN l2 k mm) k = { at8 l2 k with n := mm } := setN_at l2 k mm (by omega)
                  have cs := fun w => ref_SameNo (at8 l2 k) (at8 (setN l2 k mm) k) Ax Ay mx my w (by rw [hyk]) (by rw [hyk]; exact hd)
                  clear hyk hrx hry hd
                  generalize at8 (setN l2 k mm) k = yy at *
                  generalize at8 l2 k = xx at *
                  go_wp2_with fail
                  (refine wp_region_ext_lit (by kernel_rfl) (by kernel_rfl) ?_; (repeat (go_big_quiet_step ((first | (go_at_call 23; exact ext_call (cs _)))))); refine wpQuiet_nil ?_; intro w6 hb_w6; obtain ⟨hc_w6, hf_w6⟩ := bcell hb_w6; have hz_w6 := hb_w6.size; (try simp only [World.size_alloc, World.size_setCell, World.size_drew] at hz_w6))
                  go_wp2_with fail
                  go_roundw
                  case rel => exact ⟨k + 1, false, by omega, by go_num, rfl, HN, HX.out.below hb_w6, HY'.out.below hb_w6, hbr.trans (hb_w6.mono hbr.size)⟩
                  case measure => simp [intOf]; omega
                · have HN := Lib.hid (show true = decide (k + 1 ≤ kk ∨ (at8 l2 kk).n = mm) from by
                    have := of_decide_eq_true hbv.out.symm
                    symm; rw [decide_eq_true_iff]; omega)
                  have hyk : at8 (setN l2 kk mm) k = at8 l2 k := by
                    by_cases e : k = kk
                    · subst e
                      have e2 : (at8 l2 k).n = mm := by
                        by_cases h : (at8 l2 k).n = mm
                        · exact h
                        · exact absurd ⟨rfl, h⟩ hpart
                      rw [← e2, setN_own l2 k (by omega)]
                    · exact setN_ne l2 kk k _ e
                  rw [hyk] at e0 e1 e2 e3 e4 e5 e6 e7 hry
                  have cs := fun x => ref_SameYes (at8 l2 k) Ax Ay mx my (ext wr x) (hrx.below (below_ext wr x)) (hry.below (below_ext wr x))
                  clear hyk hrx hry hpart
                  generalize at8 l2 k = xx at *
                  go_wp2_with fail
                  (refine wp_region_ext_lit (by kernel_rfl) (by kernel_rfl) ?_; (repeat (go_big_quiet_step ((first | (go_at_call 23; exact ext_call (cs _)))))); refine wpQuiet_nil ?_; intro w6 hb_w6; obtain ⟨hc_w6, hf_w6⟩ := bcell hb_w6; have hz_w6 := hb_w6.size; (try simp only [World.size_alloc, World.size_setCell, World.size_drew] at hz_w6))
                  go_wp2_with fail
                  go_roundw
                  case rel => exact ⟨k + 1, true, by omega, by go_num, rfl, HN, HX.out.below hb_w6, HY'.out.below hb_w6, hbr.trans (hb_w6.mono hbr.size)⟩
                  case measure => simp [intOf]; omega
            · obtain rfl : k = g.size := by omega
              have HX := Lib.hid hX
              have HY' := Lib.hid hY
              have hbx : b = decide ((at8 l2 kk).n = mm) := by rw [hbv.out]; exact decide_eq_decide.2 (by omega)
              have hcx : l2.length ≤ c2 := hc2
              have hcy : (setN l2 kk mm).length ≤ c4 := by rw [setN_len]; exact hc4
              have h1m : l2.length ≤ 1000000 := by omega
              have h1m' : (setN l2 kk mm).length ≤ 1000000 := by rw [setN_len]; exact h1m
              have hsy : g.size = (setN l2 kk mm).length := by rw [setN_len]; exact HLN.out.symm
              have hsx : g.size = l2.length := HLN.out.symm
              have cx := fun w' (h : Below wr.heap.size wr w') => law_allN (some ⟨g2, 0, none⟩) l2 g.size c2 w' hsx hcx h1m (HX.out.below h)
              have cy := fun w' (h : Below wr.heap.size wr w') => law_allN (some ⟨g4, 0, none⟩) (setN l2 kk mm) g.size c4 w' hsy hcy h1m' (HY'.out.below h)
              have hPx := AP.px
              have hPy := AP.py
              have hEq := AP.eq
              have hg14 : g.size ≤ 140737488351232 := by omega
              have CX := Lib.hid cx
              have CY := Lib.hid cy
              clear hX hY hbv hcx hcy hsy hsx cx cy hy1'
              have hse : decide (strOfNums (catB l2 l2.length) = strOfNums (catB (setN l2 kk mm) l2.length)) = b := by rw [hbx]; exact decide_eq_decide.2 hEq
              have hsb := str_beq _ _ _ hse
              have OKY := Lib.hid AP.ok
              have HPX := Lib.hid hPx
              have HPY := Lib.hid hPy
              have HSB := Lib.hid hsb
              clear hse hbx hEq hPx hPy hsb AP hn
              go_wp2_with (first | (go_at_call 18; (with_reducible refine (CX.out _ ?_).mono ?_); (focus ((repeat (first | (with_reducible exact Below.refl _ _) | ((with_reducible refine Below.alloc ?_ ?hB _); (case hB => (first | omega | (simp; done) | (simp; omega)))) | ((with_reducible refine Below.setCell ?_ ?hB _); (case hB => (first | omega | (simp; done) | (simp; omega)))) | (with_reducible refine Below.drew ?_) | ((with_reducible refine below_ext_of ?_ ?hB); (case hB => (first | omega | (simp; done) | (simp; omega)))) | ((with_reducible refine Below.trans ?_ (Below.mono (by assumption) ?hB)); (case hB => (first | omega | (simp; done) | (simp; omega)))))); done)); rintro e w6 ⟨A6, c6, rfl, hr6, hb6⟩; have hz6 := hb6.size))
              refine (args_PackOk g _ l2 _ _ _ HPX.out hr6.1 hg14 OKX.out hr6.2).mono ?_
              rintro e w7 ⟨A7, c7, rfl, hr7, hb7⟩
              have hz7 := hb7.size
              clear hr6
              go_wp2_with (first | (go_at_call 18; (with_reducible refine (CY.out _ ?_).mono ?_); (focus ((repeat (first | (with_reducible exact Below.refl _ _) | ((with_reducible refine Below.alloc ?_ ?hB _); (case hB => (first | omega | (simp; done) | (simp; omega)))) | ((with_reducible refine Below.setCell ?_ ?hB _); (case hB => (first | omega | (simp; done) | (simp; omega)))) | (with_reducible refine Below.drew ?_) | ((with_reducible refine below_ext_of ?_ ?hB); (case hB => (first | omega | (simp; done) | (simp; omega)))) | ((with_reducible refine Below.trans ?_ (Below.mono (by assumption) ?hB)); (case hB => (first | omega | (simp; done) | (simp; omega)))))); done)); rintro e w8 ⟨A8, c8, rfl, hr8, hb8⟩; have hz8 := hb8.size))
              refine (args_PackOk g _ (setN l2 kk mm) _ _ _ HPY.out hr8.1 hg14 OKY.out hr8.2).mono ?_
              rintro e w9 ⟨A9, c9, rfl, hr9, hb9⟩
              have hz9 := hb9.size
              have s7 := str_reads (c := c7) (hr7.below (hb8.trans (hb9.mono hz8)))
              have s9 := str_reads (c := c9) hr9
              clear hr8 hr7 hr9
              have hsb := HSB.out
              have BB := Lib.hid (hbr.trans ((hb6.trans ((hb7.trans ((hb8.trans (hb9.mono hz8)).mono hz7)).mono hz6)).mono hbr.size))
              generalize strOfNums (catB l2 l2.length) = sx at *
              generalize strOfNums (catB (setN l2 kk mm) l2.length) = sy at *
              cases b
              · go_wp2_with (first | (go_at_call 22; (with_reducible refine (args_lives _).mono ?_); rintro e w1 ⟨rfl, hb1⟩; obtain ⟨hc1, hf1⟩ := bcell hb1; have hz1 := hb1.size; (try simp only [World.size_alloc, World.size_setCell, World.size_drew] at hz1)))
                go_ret
                exact ⟨rfl, BB.out.trans (hb1.mono BB.out.size)⟩
              · go_wp2_with (first | (go_at_call 22; (with_reducible refine (args_lives _).mono ?_); rintro e w1 ⟨rfl, hb1⟩; obtain ⟨hc1, hf1⟩ := bcell hb1; have hz1 := hb1.size; (try simp only [World.size_alloc, World.size_setCell, World.size_drew] at hz1)))
                go_ret
                exact ⟨rfl, BB.out.trans (hb1.mono BB.out.size)⟩
      · have xr := hw2.get kk
        have X0 := pw_cell_below B24.out (show w2.cell? ⟨g2, kk * 8 + 0, none⟩ = some _ from hw2.get kk 0 (by omega) (by omega))
        have X1 := pw_cell_below B24.out (show w2.cell? ⟨g2, kk * 8 + 1, none⟩ = some _ from hw2.get kk 1 (by omega) (by omega))
        have X2 := pw_cell_below B24.out (show w2.cell? ⟨g2, kk * 8 + 2, none⟩ = some _ from hw2.get kk 2 (by omega) (by omega))
        have X3 := pw_cell_below B24.out (show w2.cell? ⟨g2, kk * 8 + 3, none⟩ = some _ from hw2.get kk 3 (by omega) (by omega))
        have X4 := pw_cell_below B24.out (show w2.cell? ⟨g2, kk * 8 + 4, none⟩ = some _ from hw2.get kk 4 (by omega) (by omega))
        have X5 := pw_cell_below B24.out (show w2.cell? ⟨g2, kk * 8 + 5, none⟩ = some _ from hw2.get kk 5 (by omega) (by omega))
        have X6 := pw_cell_below B24.out (show w2.cell? ⟨g2, kk * 8 + 6, none⟩ = some _ from hw2.get kk 6 (by omega) (by omega))
        have X7 := pw_cell_below B24.out (show w2.cell? ⟨g2, kk * 8 + 7, none⟩ = some _ from hw2.get kk 7 (by omega) (by omega))
        obtain ⟨x, hx⟩ : ∃ x, x = L2[kk]'(by omega) := ⟨_, rfl⟩
        rw [← hx] at X0 X1 X2 X3 X4 X5 X6 X7
        simp only [Nat.add_zero] at X0
        have Y0 := hw4.get kk 0 (by omega) (by omega)
        have Y2 := hw4.get kk 2 (by omega) (by omega)
        have Y3 := hw4.get kk 3 (by omega) (by omega)
        have Y4 := hw4.get kk 4 (by omega) (by omega)
        have Y5 := hw4.get kk 5 (by omega) (by omega)
        have Y6 := hw4.get kk 6 (by omega) (by omega)
        have Y7 := hw4.get kk 7 (by omega) (by omega)
        rw [← HY.out] at Y0 Y2 Y3 Y4 Y5 Y6 Y7
        replace Y0 : w4.cell? ⟨g4, kk * 8, none⟩ = some (.int .i64 y.x.kind) := Y0
        replace Y2 : w4.cell? ⟨g4, kk * 8 + 2, none⟩ = some (.string y.x.s) := Y2
        replace Y3 : w4.cell? ⟨g4, kk * 8 + 3, none⟩ = some (.int .i64 y.x.x0) := Y3
        replace Y4 : w4.cell? ⟨g4, kk * 8 + 4, none⟩ = some (.int .i64 y.x.y0) := Y4
        replace Y5 : w4.cell? ⟨g4, kk * 8 + 5, none⟩ = some (.int .i64 y.x.x1) := Y5
        replace Y6 : w4.cell? ⟨g4, kk * 8 + 6, none⟩ = some (.int .i64 y.x.y1) := Y6
        replace Y7 : w4.cell? ⟨g4, kk * 8 + 7, none⟩ = some (.slice y.A y.x.b.length y.m) := Y7
        have fy0 := hw4.free (kk * 8); have fy2 := hw4.free (kk * 8 + 2); have fy3 := hw4.free (kk * 8 + 3); have fy4 := hw4.free (kk * 8 + 4)
        have fy5 := hw4.free (kk * 8 + 5); have fy6 := hw4.free (kk * 8 + 6); have fy7 := hw4.free (kk * 8 + 7)
        have hne : ¬ g2 = g4 := by have := hw2.ge; omega
        have hne2 : ¬ g4 = g2 := by omega
        clear xr
        have t3 : (byN g kk == 117) = false := by simp [c117]
        have t4 : (byN g kk != 117) = true := by simp [c117]
        have C117 := Lib.hid c117
        clear c117
        have HXE := Lib.hid hx
        have HXY := Lib.hid (show y.x = x.x from by
          have e1 : (L4.map (·.x))[kk]? = some y.x := by rw [List.getElem?_map, List.getElem?_eq_getElem (by omega), HY.out]; rfl
          have e2 : (L2.map (·.x))[kk]? = some x.x := by rw [List.getElem?_map, List.getElem?_eq_getElem (by omega), HXE.out]; rfl
          rw [hL4, ← hL2, e2] at e1
          exact (Option.some.inj e1).symm)
        have HXA := Lib.hid (show x.x.n = (at8 (goodL g (fewL l)) kk).n from by
          rw [← hL2]
          unfold at8; rw [List.getD_eq_getElem?_getD, List.getElem?_map, List.getElem?_eq_getElem (by omega), HXE.out]; rfl)
        obtain ⟨mm, hmm⟩ : ∃ mm, mm = x.x.n := ⟨_, rfl⟩
        replace X0 : w4.cell? ⟨g2, kk * 8, none⟩ = some (.int .i64 x.x.kind) := X0
        replace X1 : w4.cell? ⟨g2, kk * 8 + 1, none⟩ = some (.int .i64 x.x.n) := X1
        rw [← hmm] at X1
        replace X2 : w4.cell? ⟨g2, kk * 8 + 2, none⟩ = some (.string x.x.s) := X2
        replace X3 : w4.cell? ⟨g2, kk * 8 + 3, none⟩ = some (.int .i64 x.x.x0) := X3
        replace X4 : w4.cell? ⟨g2, kk * 8 + 4, none⟩ = some (.int .i64 x.x.y0) := X4
        replace X5 : w4.cell? ⟨g2, kk * 8 + 5, none⟩ = some (.int .i64 x.x.x1) := X5
        replace X6 : w4.cell? ⟨g2, kk * 8 + 6, none⟩ = some (.int .i64 x.x.y1) := X6
        replace X7 : w4.cell? ⟨g2, kk * 8 + 7, none⟩ = some (.slice x.A x.x.b.length x.m) := X7
        have HMM := Lib.hid hmm
        clear hmm hx
        go_wp2_with fail
        go_region_with (fail)
        all_goals
          go_wp2_with fail
          have X0' := Lib.hid X0
          clear X0 X1 X2 X3 X4 X5 X6 X7 Y0 Y2 Y3 Y4 Y5 Y6 Y7 fy0 fy2 fy3 fy4 fy5 fy6 fy7 hne hne2
          have hyr : y.reads w3 := hw4.2 y (by rw [HY.out]; exact List.getElem_mem _)
          have hxr : x.reads w3 := ⟨(hw2.2 x (by rw [HXE.out]; exact List.getElem_mem _)).1, (hw2.2 x (by rw [HXE.out]; exact List.getElem_mem _)).2.below B13.out⟩
          have hs0 := hw4.self (k := kk) (by omega)
          rw [← HY.out] at hs0
          have hs1 := hs0.set2 1 (.int .i64 qn) ⟨{ y.x with n := qn }, y.A, y.m⟩ (by omega) (by omega) rfl hyr
          have hs2 := hs1.set2 1 (.int .i64 qm) ⟨{ y.x with n := qm }, y.A, y.m⟩ (by omega) (by omega) rfl hyr
          have hW5 := hs2.copy x (by omega) hyr hxr
          rw [← HMM.out] at hW5
          have HW5 := Lib.hid hW5
          have hl2 : (L4.set kk x).map (·.x) = setN (goodL g (fewL l)) kk mm := by
            rw [← hL4]
            unfold setN
            rw [List.map_set]
            have e : at8 (L4.map (·.x)) kk = y.x := by
              unfold at8; rw [List.getD_eq_getElem?_getD, List.getElem?_map, List.getElem?_eq_getElem (by omega), HY.out]; rfl
            rw [e]
            have e2 : ({ y.x with n := mm } : V8) = x.x := by rw [HMM.out, HXY.out]
            rw [e2]
          have AP := apart_pure f (fewL l) kk mm g HG.out hkn H2 (.inr (.inr ⟨C105.out, C117.out, by rw [HMM.out, HXA.out]⟩))
          have hrowy : VRow (((((((((((w4.setCell ⟨g4, kk * 8 + 1, none⟩ (.int .i64 qn)).setCell ⟨g4, kk * 8 + 1, none⟩ (.int .i64 qm)).setCell ⟨g4, kk * 8, none⟩ (.int .i64 x.x.kind)).setCell ⟨g4, kk * 8 + 1, none⟩ (.int .i64 mm)).setCell ⟨g4, kk * 8 + 2, none⟩ (.string x.x.s)).setCell ⟨g4, kk * 8 + 3, none⟩ (.int .i64 x.x.x0)).setCell ⟨g4, kk * 8 + 4, none⟩ (.int .i64 x.x.y0)).setCell ⟨g4, kk * 8 + 5, none⟩ (.int .i64 x.x.x1)).setCell ⟨g4, kk * 8 + 6, none⟩ (.int .i64 x.x.y1)).setCell ⟨g4, kk * 8 + 7, none⟩ (.slice x.A x.x.b.length x.m)).drew) (some ⟨g4, 0, none⟩) (setN (goodL g (fewL l)) kk mm) := by
            rw [← hl2]; exact (OwnL.drew HW5.out).row (((((((((((B34.out.setCell (p := ⟨g4, kk * 8 + 1, none⟩) hg4w _).setCell (p := ⟨g4, kk * 8 + 1, none⟩) hg4w _).setCell (p := ⟨g4, kk * 8, none⟩) hg4w _).setCell (p := ⟨g4, kk * 8 + 1, none⟩) hg4w _).setCell (p := ⟨g4, kk * 8 + 2, none⟩) hg4w _).setCell (p := ⟨g4, kk * 8 + 3, none⟩) hg4w _).setCell (p := ⟨g4, kk * 8 + 4, none⟩) hg4w _).setCell (p := ⟨g4, kk * 8 + 5, none⟩) hg4w _).setCell (p := ⟨g4, kk * 8 + 6, none⟩) hg4w _).setCell (p := ⟨g4, kk * 8 + 7, none⟩) hg4w _).drew)
          have hrowx : VRow (((((((((((w4.setCell ⟨g4, kk * 8 + 1, none⟩ (.int .i64 qn)).setCell ⟨g4, kk * 8 + 1, none⟩ (.int .i64 qm)).setCell ⟨g4, kk * 8, none⟩ (.int .i64 x.x.kind)).setCell ⟨g4, kk * 8 + 1, none⟩ (.int .i64 mm)).setCell ⟨g4, kk * 8 + 2, none⟩ (.string x.x.s)).setCell ⟨g4, kk * 8 + 3, none⟩ (.int .i64 x.x.x0)).setCell ⟨g4, kk * 8 + 4, none⟩ (.int .i64 x.x.y0)).setCell ⟨g4, kk * 8 + 5, none⟩ (.int .i64 x.x.x1)).setCell ⟨g4, kk * 8 + 6, none⟩ (.int .i64 x.x.y1)).setCell ⟨g4, kk * 8 + 7, none⟩ (.slice x.A x.x.b.length x.m)).drew) (some ⟨g2, 0, none⟩) (goodL g (fewL l)) := HX2.out.below (((((((((((B24.out.setCell (p := ⟨g4, kk * 8 + 1, none⟩) (Nat.le_trans hz3 hg4w) _).setCell (p := ⟨g4, kk * 8 + 1, none⟩) (Nat.le_trans hz3 hg4w) _).setCell (p := ⟨g4, kk * 8, none⟩) (Nat.le_trans hz3 hg4w) _).setCell (p := ⟨g4, kk * 8 + 1, none⟩) (Nat.le_trans hz3 hg4w) _).setCell (p := ⟨g4, kk * 8 + 2, none⟩) (Nat.le_trans hz3 hg4w) _).setCell (p := ⟨g4, kk * 8 + 3, none⟩) (Nat.le_trans hz3 hg4w) _).setCell (p := ⟨g4, kk * 8 + 4, none⟩) (Nat.le_trans hz3 hg4w) _).setCell (p := ⟨g4, kk * 8 + 5, none⟩) (Nat.le_trans hz3 hg4w) _).setCell (p := ⟨g4, kk * 8 + 6, none⟩) (Nat.le_trans hz3 hg4w) _).setCell (p := ⟨g4, kk * 8 + 7, none⟩) (Nat.le_trans hz3 hg4w) _).drew)
          have hbel : Below w.heap.size w (((((((((((w4.setCell ⟨g4, kk * 8 + 1, none⟩ (.int .i64 qn)).setCell ⟨g4, kk * 8 + 1, none⟩ (.int .i64 qm)).setCell ⟨g4, kk * 8, none⟩ (.int .i64 x.x.kind)).setCell ⟨g4, kk * 8 + 1, none⟩ (.int .i64 mm)).setCell ⟨g4, kk * 8 + 2, none⟩ (.string x.x.s)).setCell ⟨g4, kk * 8 + 3, none⟩ (.int .i64 x.x.x0)).setCell ⟨g4, kk * 8 + 4, none⟩ (.int .i64 x.x.y0)).setCell ⟨g4, kk * 8 + 5, none⟩ (.int .i64 x.x.x1)).setCell ⟨g4, kk * 8 + 6, none⟩ (.int .i64 x.x.y1)).setCell ⟨g4, kk * 8 + 7, none⟩ (.slice x.A x.x.b.length x.m)).drew) := ((((((((((HB4.out.setCell (p := ⟨g4, kk * 8 + 1, none⟩) HG4.out _).setCell (p := ⟨g4, kk * 8 + 1, none⟩) HG4.out _).setCell (p := ⟨g4, kk * 8, none⟩) HG4.out _).setCell (p := ⟨g4, kk * 8 + 1, none⟩) HG4.out _).setCell (p := ⟨g4, kk * 8 + 2, none⟩) HG4.out _).setCell (p := ⟨g4, kk * 8 + 3, none⟩) HG4.out _).setCell (p := ⟨g4, kk * 8 + 4, none⟩) HG4.out _).setCell (p := ⟨g4, kk * 8 + 5, none⟩) HG4.out _).setCell (p := ⟨g4, kk * 8 + 6, none⟩) HG4.out _).setCell (p := ⟨g4, kk * 8 + 7, none⟩) HG4.out _).drew
          have HAP := Lib.hid AP
          have OKX := Lib.hid H2
          clear hW5 HW5 hl2 hw4 hL4 hw2 hL2 H2 HY AP HX2 hpos hs0 hs1 hs2 hyr hxr HXE HXA HXY HMM
          generalize goodL g (fewL l) = l2 at *
          have HRX := Lib.hid hrowx
          have HRY := Lib.hid hrowy
          have HBL := Lib.hid hbel
          clear hrowx hrowy hbel
          have AP := HAP.out
          go_loopw [13, 14] (fun v i wr => ∃ (k : Nat) (b : Bool), k ≤ g.size ∧ i = .int .i64 k ∧ v = .bool b ∧ Hid (b = decide (k ≤ kk ∨ (at8 l2 kk).n = mm)) ∧ VRow wr (some ⟨g2, 0, none⟩) l2 ∧ VRow wr (some ⟨g4, 0, none⟩) (setN l2 kk mm) ∧ Below w.heap.size w wr) (fun _ i _ => g.size - (intOf i).toNat)
          case atStart => exact ⟨0, true, by omega, rfl, rfl, Lib.hid (by simp), HRX.out, HRY.out, HBL.out⟩
          case round =>
            obtain ⟨k, b, hk, rfl, rfl, hbv, hX, hY, hbr⟩ := hrel
            have hzr := hbr.size
            by_cases hlt : k < g.size
            · obtain ⟨adx, Ax, mx, ex, f0, f1, f2, f3, f4, f5, f6, f7, hmx, hrx⟩ := hX k (by omega)
              obtain ⟨ady, Ay, my, ey, e0, e1, e2, e3, e4, e5, e6, e7, hmy, hry⟩ := hY k (by rw [setN_len]; omega)
              cases ex
              cases ey
              simp only [add_p] at f0 f1 f2 f3 f4 f5 f6 f7 e0 e1 e2 e3 e4 e5 e6 e7
              have hg2 : g2 < wr.heap.size := World.block_lt_of_cell? _ _ f0
              have hg4 : g4 < wr.heap.size := World.block_lt_of_cell? _ _ e0
              have HX := Lib.hid hX
              have HY' := Lib.hid hY
              clear hX hY
              cases b
              · have HN := Lib.hid (show false = decide (k + 1 ≤ kk ∨ (at8 l2 kk).n = mm) from by
                  have := of_decide_eq_false hbv.out.symm
                  symm; rw [decide_eq_false_iff_not]; omega)
                clear f0 f1 f2 f3 f4 f5 f6 f7 e0 e1 e2 e3 e4 e5 e6 e7 hrx hry
                go_wp2_with fail
                (refine wp_region_ext_lit (by kernel_rfl) (by kernel_rfl) ?_; (repeat (go_big_quiet_step ((fail)))); refine wpQuiet_nil ?_; intro w6 hb_w6; obtain ⟨hc_w6, hf_w6⟩ := bcell hb_w6; have hz_w6 := hb_w6.size; (try simp only [World.size_alloc, World.size_setCell, World.size_drew] at hz_w6))
                go_wp2_with fail
                go_roundw
                case rel => exact ⟨k + 1, false, by omega, by go_num, rfl, HN, HX.out.below hb_w6, HY'.out.below hb_w6, hbr.trans (hb_w6.mono hbr.size)⟩
                case measure => simp [intOf]; omega
              · by_cases hpart : k = kk ∧ ¬ (at8 l2 kk).n = mm
                · obtain ⟨rfl, hd⟩ := hpart
                  have HN := Lib.hid (show false = decide (k + 1 ≤ k ∨ (at8 l2 k).n = mm) from by symm; rw [decide_eq_false_iff_not]; omega)
                  have hyk : at8 (setN l2 k mm) k = { at8 l2 k with n := mm } := setN_at l2 k mm (by omega)
                  have cs := fun w => ref_SameNo (at8 l2 k) (at8 (setN l2 k mm) k) Ax Ay mx my w (by rw [hyk]) (by rw [hyk]; exact hd)
                  clear hyk hrx hry hd
                  generalize at8 (setN l2 k mm) k = yy at *
                  generalize at8 l2 k = xx at *
                  go_wp2_with fail
                  (refine wp_region_ext_lit (by kernel_rfl) (by kernel_rfl) ?_; (repeat (go_big_quiet_step ((first | (go_at_call 23; exact ext_call (cs _)))))); refine wpQuiet_nil ?_; intro w6 hb_w6; obtain ⟨hc_w6, hf_w6⟩ := bcell hb_w6; have hz_w6 := hb_w6.size; (try simp only [World.size_alloc, World.size_setCell, World.size_drew] at hz_w6))
                  go_wp2_with fail
                  go_roundw
                  case rel => exact ⟨k + 1, false, by omega, by go_num, rfl, HN, HX.out.below hb_w6, HY'.out.below hb_w6, hbr.trans (hb_w6.mono hbr.size)⟩
                  case measure => simp [intOf]; omega
                · have HN := Lib.hid (show true = decide (k + 1 ≤ kk ∨ (at8 l2 kk).n = mm) from by
                    have := of_decide_eq_true hbv.out.symm
                    symm; rw [decide_eq_true_iff]; omega)
                  have hyk : at8 (setN l2 kk mm) k = at8 l2 k := by
                    by_cases e : k = kk
                    · subst e
                      have e2 : (at8 l2 k).n = mm := by
                        by_cases h : (at8 l2 k).n = mm
                        · exact h
                        · exact absurd ⟨rfl, h⟩ hpart
                      rw [← e2, setN_own l2 k (by omega)]
                    · exact setN_ne l2 kk k _ e
                  rw [hyk] at e0 e1 e2 e3 e4 e5 e6 e7 hry
                  have cs := fun x => ref_SameYes (at8 l2 k) Ax Ay mx my (ext wr x) (hrx.below (below_ext wr x)) (hry.below (below_ext wr x))
                  clear hyk hrx hry hpart
                  generalize at8 l2 k = xx at *
                  go_wp2_with fail
                  (refine wp_region_ext_lit (by kernel_rfl) (by kernel_rfl) ?_; (repeat (go_big_quiet_step ((first | (go_at_call 23; exact ext_call (cs _)))))); refine wpQuiet_nil ?_; intro w6 hb_w6; obtain ⟨hc_w6, hf_w6⟩ := bcell hb_w6; have hz_w6 := hb_w6.size; (try simp only [World.size_alloc, World.size_setCell, World.size_drew] at hz_w6))
                  go_wp2_with fail
                  go_roundw
                  case rel => exact ⟨k + 1, true, by omega, by go_num, rfl, HN, HX.out.below hb_w6, HY'.out.below hb_w6, hbr.trans (hb_w6.mono hbr.size)⟩
                  case measure => simp [intOf]; omega
            · obtain rfl : k = g.size := by omega
              have HX := Lib.hid hX
              have HY' := Lib.hid hY
              have hbx : b = decide ((at8 l2 kk).n = mm) := by rw [hbv.out]; exact decide_eq_decide.2 (by omega)
              have hcx : l2.length ≤ c2 := hc2
              have hcy : (setN l2 kk mm).length ≤ c4 := by rw [setN_len]; exact hc4
              have h1m : l2.length ≤ 1000000 := by omega
              have h1m' : (setN l2 kk mm).length ≤ 1000000 := by rw [setN_len]; exact h1m
              have hsy : g.size = (setN l2 kk mm).length := by rw [setN_len]; exact HLN.out.symm
              have hsx : g.size = l2.length := HLN.out.symm
              have cx := fun w' (h : Below wr.heap.size wr w') => law_allN (some ⟨g2, 0, none⟩) l2 g.size c2 w' hsx hcx h1m (HX.out.below h)
              have cy := fun w' (h : Below wr.heap.size wr w') => law_allN (some ⟨g4, 0, none⟩) (setN l2 kk mm) g.size c4 w' hsy hcy h1m' (HY'.out.below h)
              have hPx := AP.px
              have hPy := AP.py
              have hEq := AP.eq
              have hg14 : g.size ≤ 140737488351232 := by omega
              have CX := Lib.hid cx
              have CY := Lib.hid cy
              clear hX hY hbv hcx hcy hsy hsx cx cy hy1'
              have hse : decide (strOfNums (catB l2 l2.length) = strOfNums (catB (setN l2 kk mm) l2.length)) = b := by rw [hbx]; exact decide_eq_decide.2 hEq
              have hsb := str_beq _ _ _ hse
              have OKY := Lib.hid AP.ok
              have HPX := Lib.hid hPx
              have HPY := Lib.hid hPy
              have HSB := Lib.hid hsb
              clear hse hbx hEq hPx hPy hsb AP hn
              go_wp2_with (first | (go_at_call 18; (with_reducible refine (CX.out _ ?_).mono ?_); (focus ((repeat (first | (with_reducible exact Below.refl _ _) | ((with_reducible refine Below.alloc ?_ ?hB _); (case hB => (first | omega | (simp; done) | (simp; omega)))) | ((with_reducible refine Below.setCell ?_ ?hB _); (case hB => (first | omega | (simp; done) | (simp; omega)))) | (with_reducible refine Below.drew ?_) | ((with_reducible refine below_ext_of ?_ ?hB); (case hB => (first | omega | (simp; done) | (simp; omega)))) | ((with_reducible refine Below.trans ?_ (Below.mono (by assumption) ?hB)); (case hB => (first | omega | (simp; done) | (simp; omega)))))); done)); rintro e w6 ⟨A6, c6, rfl, hr6, hb6⟩; have hz6 := hb6.size))
              refine (args_PackOk g _ l2 _ _ _ HPX.out hr6.1 hg14 OKX.out hr6.2).mono ?_
              rintro e w7 ⟨A7, c7, rfl, hr7, hb7⟩
              have hz7 := hb7.size
              clear hr6
              go_wp2_with (first | (go_at_call 18; (with_reducible refine (CY.out _ ?_).mono ?_); (focus ((repeat (first | (with_reducible exact Below.refl _ _) | ((with_reducible refine Below.alloc ?_ ?hB _); (case hB => (first | omega | (simp; done) | (simp; omega)))) | ((with_reducible refine Below.setCell ?_ ?hB _); (case hB => (first | omega | (simp; done) | (simp; omega)))) | (with_reducible refine Below.drew ?_) | ((with_reducible refine below_ext_of ?_ ?hB); (case hB => (first | omega | (simp; done) | (simp; omega)))) | ((with_reducible refine Below.trans ?_ (Below.mono (by assumption) ?hB)); (case hB => (first | omega | (simp; done) | (simp; omega)))))); done)); rintro e w8 ⟨A8, c8, rfl, hr8, hb8⟩; have hz8 := hb8.size))
              refine (args_PackOk g _ (setN l2 kk mm) _ _ _ HPY.out hr8.1 hg14 OKY.out hr8.2).mono ?_
              rintro e w9 ⟨A9, c9, rfl, hr9, hb9⟩
              have hz9 := hb9.size
              have s7 := str_reads (c := c7) (hr7.below (hb8.trans (hb9.mono hz8)))
              have s9 := str_reads (c := c9) hr9
              clear hr8 hr7 hr9
              have hsb := HSB.out
              have BB := Lib.hid (hbr.trans ((hb6.trans ((hb7.trans ((hb8.trans (hb9.mono hz8)).mono hz7)).mono hz6)).mono hbr.size))
              generalize strOfNums (catB l2 l2.length) = sx at *
              generalize strOfNums (catB (setN l2 kk mm) l2.length) = sy at *
              cases b
              · go_wp2_with (first | (go_at_call 22; (with_reducible refine (args_lives _).mono ?_); rintro e w1 ⟨rfl, hb1⟩; obtain ⟨hc1, hf1⟩ := bcell hb1; have hz1 := hb1.size; (try simp only [World.size_alloc, World.size_setCell, World.size_drew] at hz1)))
                go_ret
                exact ⟨rfl, BB.out.trans (hb1.mono BB.out.size)⟩
              · go_wp2_with (first | (go_at_call 22; (with_reducible refine (args_lives _).mono ?_); rintro e w1 ⟨rfl, hb1⟩; obtain ⟨hc1, hf1⟩ := bcell hb1; have hz1 := hb1.size; (try simp only [World.size_alloc, World.size_setCell, World.size_drew] at hz1)))
                go_ret
                exact ⟨rfl, BB.out.trans (hb1.mono BB.out.size)⟩
end Go.Proofs.Yteldbnelfeiifaa
