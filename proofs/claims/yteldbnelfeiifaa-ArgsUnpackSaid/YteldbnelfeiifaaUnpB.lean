/- The law ArgsUnpack, walked. -/
import Derived.Test.YteldbnelfeiifaaUnpA
namespace Go.Proofs.Yteldbnelfeiifaa
open Go.RowKit Go.Proofs.YteldbnelfeiifaaW.PrintWords
set_option linter.unusedSimpArgs false
set_option linter.unusedVariables false
set_option maxRecDepth 1000000
set_option maxHeartbeats 4000000 in
theorem walk_ArgsUnpack (f : ByteArray) (A : Option Addr) (b : List Int) (c : Nat) (w : World) (hf : f.size ≤ 9223372036854775807) (hr : BS w A b c) : Calls Try.prog 11 #[.string f, .slice A b.length c] w fun e w' => e = .returned (.bool true) ∧ Below w.heap.size w w' := by
  have hlen := hr.rd.2.1
  have cF : Calls Try.prog 49 #[.slice A b.length c, .int .i64 80] w fun e w' => e = .returned (.slice A (min b.length 80) c) ∧ w = w' := ref_Few A b.length c 80 w hr.le (by omega) hlen
  obtain ⟨n, hn⟩ : ∃ n, min b.length 80 = n := ⟨_, rfl⟩
  have hB := hr.take n (by omega)
  have hbl : (b.take n).length = n := by simp; omega
  obtain ⟨b2, hb2⟩ : ∃ b2, b.take n = b2 := ⟨_, rfl⟩
  rw [hb2] at hB hbl
  rw [hn, ← hbl] at cF
  have HB := Lib.hid hB
  have hb80 : b2.length ≤ 80 := by omega
  have hlb := hB.le
  clear hb2 hn hr hB hbl
  by_cases h12 : f.size ≤ 12
  · have h12' : ¬ (f.size : Int) > 12 := by omega
    have cL := fun w => ref_Letters f w (by omega)
    go_enter Try.func11, Try.ntmps11
    go_wp2_with (first | (go_at_call 49; (with_reducible refine (cF).mono ?_); rintro e w1 ⟨rfl, rfl⟩) | (go_at_call 15; (with_reducible refine (cL _).mono ?_); rintro e w1 ⟨rfl, rfl⟩))
    obtain ⟨W0, hW0⟩ : ∃ W0, W0 = w.alloc (.cells #[.string f, .string (lettersP f)] 9) := ⟨_, rfl⟩
    rw [← hW0]
    have hbw : Below w.heap.size w W0 := by rw [hW0]; (repeat (first | (with_reducible exact Below.refl _ _) | ((with_reducible refine Below.alloc ?_ ?hB _); (case hB => (first | omega | (simp; done) | (simp; omega)))) | ((with_reducible refine Below.setCell ?_ ?hB _); (case hB => (first | omega | (simp; done) | (simp; omega)))) | (with_reducible refine Below.drew ?_) | ((with_reducible refine below_ext_of ?_ ?hB); (case hB => (first | omega | (simp; done) | (simp; omega)))) | ((with_reducible refine Below.trans ?_ (Below.mono (by assumption) ?hB)); (case hB => (first | omega | (simp; done) | (simp; omega))))))
    have HS := Lib.hid (show ∀ i, i < 2 → ∃ g : ByteArray, W0.cell? ⟨w.heap.size, i, none⟩ = some (.string g) ∧ g.size ≤ 12 from fun i hi => by
      have h8 := lettersP_size f
      rcases (show i = 0 ∨ i = 1 by omega) with rfl | rfl
      · exact ⟨f, by rw [hW0, World.cell?_alloc_new]; rfl, h12⟩
      · exact ⟨lettersP f, by rw [hW0, World.cell?_alloc_new]; rfl, by omega⟩)
    have hz0 : w.heap.size + 1 ≤ W0.heap.size := by rw [hW0]; simp
    have HBW := Lib.hid hbw
    have hb2 := HB.out.below hbw
    have HB2 := Lib.hid hb2
    clear hW0 cF cL hbw hb2 HB
    obtain ⟨B, hB⟩ : ∃ B, B = w.heap.size := ⟨_, rfl⟩
    rw [← hB] at HS hz0 ⊢
    have HBQ := Lib.hid hB
    clear hB
    go_loopw [6] (fun i wr => ∃ k : Nat, k ≤ 2 ∧ i = .int .i64 k ∧ Below W0.heap.size W0 wr) (fun i _ => 2 - (intOf i).toNat)
    case atStart => exact ⟨0, by omega, rfl, Below.refl _ _⟩
    case round =>
      obtain ⟨k, hk, rfl, hbr⟩ := hrel
      have hzr := hbr.size
      by_cases h2 : k < 2
      · obtain ⟨g, hg, hgs⟩ := HS.out k h2
        have g0 := pw_cell_below hbr hg
        have hcn := unpackP_canon g b2
        have cP := fun w1 (h : Below W0.heap.size W0 w1) => args_Unpack g A b2 c w1 (by omega) HB2.out.byt (by omega) hlb HB2.out.nil (HB2.out.below h).rd
        have cR := fun w1 (h : Below W0.heap.size W0 w1) => ref_Unpack g A b2 c w1 (by omega) HB2.out.byt (by omega) hlb HB2.out.nil (HB2.out.below h).rd
        unfold UnpP at cP
        unfold RefU at cR
        obtain ⟨r, hr⟩ : ∃ r, unpackP g b2 = r := ⟨_, rfl⟩
        rw [hr] at hcn cP cR
        obtain ⟨ec, L⟩ := r
        obtain ⟨hL8, hcan⟩ := hcn
        have hL8 : L.length ≤ 8 := hL8
        have HCN := Lib.hid (show ∀ i, i < L.length → Canon (at8 L i) ∧ (at8 L i).b.length ≤ 1000000 from fun i hi => by
          have := hcan _ (at8_mem hi)
          have h2 : (at8 L i).b.length ≤ b2.length := this.2
          exact ⟨this.1, by omega⟩)
        clear hr hg hcan
        simp only at cP cR
        go_wp2_with (first | (go_at_call 50; (with_reducible refine (cP _ ?_).mono ?_); (focus ((repeat (first | (with_reducible exact Below.refl _ _) | ((with_reducible refine Below.alloc ?_ ?hB _); (case hB => (first | omega | (simp; done) | (simp; omega)))) | ((with_reducible refine Below.setCell ?_ ?hB _); (case hB => (first | omega | (simp; done) | (simp; omega)))) | (with_reducible refine Below.drew ?_) | ((with_reducible refine below_ext_of ?_ ?hB); (case hB => (first | omega | (simp; done) | (simp; omega)))) | ((with_reducible refine Below.trans ?_ (Below.mono (by assumption) ?hB)); (case hB => (first | omega | (simp; done) | (simp; omega)))))); done)); rintro e w3 ⟨A3, c3, rfl, hc3, ha3, hb3⟩; have hz3 := hb3.size; have g3 := pw_cell_below hb3 g0; replace ha3 := Lib.hid ha3; clear cP) | (go_at_call 51; (with_reducible refine (cR _ ?_).mono ?_); (focus ((repeat (first | (with_reducible exact Below.refl _ _) | ((with_reducible refine Below.alloc ?_ ?hB _); (case hB => (first | omega | (simp; done) | (simp; omega)))) | ((with_reducible refine Below.setCell ?_ ?hB _); (case hB => (first | omega | (simp; done) | (simp; omega)))) | (with_reducible refine Below.drew ?_) | ((with_reducible refine below_ext_of ?_ ?hB); (case hB => (first | omega | (simp; done) | (simp; omega)))) | ((with_reducible refine Below.trans ?_ (Below.mono (by assumption) ?hB)); (case hB => (first | omega | (simp; done) | (simp; omega)))))); done)); rintro e w4 ⟨v4, rfl, ho4, hb4⟩; have hz4 := hb4.size; obtain ⟨A4, c4, rfl, hc4, hr4⟩ := ho4.row hb4; clear ho4; replace hr4 := Lib.hid hr4; clear cR))
        go_loopw [11] (fun i wr => ∃ j : Nat, j ≤ L.length ∧ i = .int .i64 j ∧ Below w4.heap.size w4 wr) (fun i _ => L.length - (intOf i).toNat)
        case atStart => exact ⟨0, by omega, rfl, Below.refl _ _⟩
        case round =>
          obtain ⟨j, hj, rfl, hbq⟩ := hrel
          have hzq := hbq.size
          by_cases hjl : j < L.length
          · have hcb := HCN.out j hjl
            obtain ⟨hca, hbL⟩ := hcb
            obtain ⟨ad, u, eA, hu, hau⟩ := ha3.out j hjl
            subst eA
            obtain ⟨ad4, Ab, m, eA, f0, f1, f2_, f3, f4, f5, f6, f7, hm, hrb⟩ := hr4.out j hjl
            subst eA
            have hb34 : Below w3.heap.size w3 wr := hb4.trans (hbq.mono hz4)
            have p0 := fun x => pw_cell_below (below_ext wr x) (pw_cell_below hb34 hu)
            have q0 := fun x => pw_cell_below (below_ext wr x) (pw_cell_below hbq f0); have q1 := fun x => pw_cell_below (below_ext wr x) (pw_cell_below hbq f1); have q2 := fun x => pw_cell_below (below_ext wr x) (pw_cell_below hbq f2_); have q3 := fun x => pw_cell_below (below_ext wr x) (pw_cell_below hbq f3)
            have q4 := fun x => pw_cell_below (below_ext wr x) (pw_cell_below hbq f4); have q5 := fun x => pw_cell_below (below_ext wr x) (pw_cell_below hbq f5); have q6 := fun x => pw_cell_below (below_ext wr x) (pw_cell_below hbq f6); have q7 := fun x => pw_cell_below (below_ext wr x) (pw_cell_below hbq f7)
            have cl := fun x => law_like (at8 L j) u Ab m (ext wr x) hca hbL ((hau.below hb34).below (below_ext wr x)) ((hrb.below hbq).below (below_ext wr x))
            clear hca hu hau f0 f1 f2_ f3 f4 f5 f6 f7 hrb
            generalize at8 L j = y at *
            go_wp2_with fail
            (refine wp_region_ext_lit (by kernel_rfl) (by kernel_rfl) ?_; (repeat (go_big_quiet_step (((go_at_call 52; with_reducible exact ext_call (cl _)))))); refine wpQuiet_nil ?_; intro w5 hb_w5; obtain ⟨hc_w5, hf_w5⟩ := bcell hb_w5; have hz_w5 := hb_w5.size; (try simp only [World.size_alloc, World.size_setCell, World.size_drew] at hz_w5))
            clear p0 q0 q1 q2 q3 q4 q5 q6 q7 cl
            go_wp2
            go_roundw
            case rel => exact ⟨j + 1, by omega, by go_num, hbq.trans (hb_w5.mono hzq)⟩
            case measure => simp [intOf]; omega
          · obtain rfl : j = L.length := by omega
            go_wp2
            go_roundw
            case rel => exact ⟨k + 1, by omega, by go_num, by (repeat (first | (with_reducible exact Below.refl _ _) | ((with_reducible refine Below.alloc ?_ ?hB _); (case hB => (first | omega | (simp; done) | (simp; omega)))) | ((with_reducible refine Below.setCell ?_ ?hB _); (case hB => (first | omega | (simp; done) | (simp; omega)))) | (with_reducible refine Below.drew ?_) | ((with_reducible refine below_ext_of ?_ ?hB); (case hB => (first | omega | (simp; done) | (simp; omega)))) | ((with_reducible refine Below.trans ?_ (Below.mono (by assumption) ?hB)); (case hB => (first | omega | (simp; done) | (simp; omega))))))⟩
            case measure => simp [intOf]; omega
      · obtain rfl : k = 2 := by omega
        go_wp2_with (first | (go_at_call 22; (with_reducible refine (args_lives _).mono ?_); rintro e w1 ⟨rfl, hb1⟩; obtain ⟨hc1, hf1⟩ := bcell hb1; have hz1 := hb1.size; (try simp only [World.size_alloc, World.size_setCell, World.size_drew] at hz1)))
        go_ret
        exact ⟨rfl, HBW.out.trans ((hbr.trans (hb1.mono hzr)).mono (by have := HBQ.out; omega))⟩
  · have h12' : (f.size : Int) > 12 := by omega
    have h13 : (12 : Int) ≤ (f.size : Int) := by omega
    have hfs : (f.extract 0 12).size ≤ 12 := by rw [ByteArray.size_extract]; omega
    obtain ⟨f2, hf2⟩ : ∃ f2, f.extract 0 12 = f2 := ⟨_, rfl⟩
    rw [hf2] at hfs
    have cL := fun w => ref_Letters f2 w (by omega)
    go_enter Try.func11, Try.ntmps11
    go_wp2_with (first | (go_at_call 49; (with_reducible refine (cF).mono ?_); rintro e w1 ⟨rfl, rfl⟩) | (go_at_call 15; (with_reducible refine (cL _).mono ?_); rintro e w1 ⟨rfl, rfl⟩))
    clear hf2
    obtain ⟨W0, hW0⟩ : ∃ W0, W0 = w.alloc (.cells #[.string f2, .string (lettersP f2)] 9) := ⟨_, rfl⟩
    rw [← hW0]
    have hbw : Below w.heap.size w W0 := by rw [hW0]; (repeat (first | (with_reducible exact Below.refl _ _) | ((with_reducible refine Below.alloc ?_ ?hB _); (case hB => (first | omega | (simp; done) | (simp; omega)))) | ((with_reducible refine Below.setCell ?_ ?hB _); (case hB => (first | omega | (simp; done) | (simp; omega)))) | (with_reducible refine Below.drew ?_) | ((with_reducible refine below_ext_of ?_ ?hB); (case hB => (first | omega | (simp; done) | (simp; omega)))) | ((with_reducible refine Below.trans ?_ (Below.mono (by assumption) ?hB)); (case hB => (first | omega | (simp; done) | (simp; omega))))))
    have HS := Lib.hid (show ∀ i, i < 2 → ∃ g : ByteArray, W0.cell? ⟨w.heap.size, i, none⟩ = some (.string g) ∧ g.size ≤ 12 from fun i hi => by
      have h8 := lettersP_size f2
      rcases (show i = 0 ∨ i = 1 by omega) with rfl | rfl
      · exact ⟨f2, by rw [hW0, World.cell?_alloc_new]; rfl, hfs⟩
      · exact ⟨lettersP f2, by rw [hW0, World.cell?_alloc_new]; rfl, by omega⟩)
    have hz0 : w.heap.size + 1 ≤ W0.heap.size := by rw [hW0]; simp
    have HBW := Lib.hid hbw
    have hb2 := HB.out.below hbw
    have HB2 := Lib.hid hb2
    clear hW0 cF cL hbw hb2 HB
    obtain ⟨B, hB⟩ : ∃ B, B = w.heap.size := ⟨_, rfl⟩
    rw [← hB] at HS hz0 ⊢
    have HBQ := Lib.hid hB
    clear hB
    go_loopw [6] (fun i wr => ∃ k : Nat, k ≤ 2 ∧ i = .int .i64 k ∧ Below W0.heap.size W0 wr) (fun i _ => 2 - (intOf i).toNat)
    case atStart => exact ⟨0, by omega, rfl, Below.refl _ _⟩
    case round =>
      obtain ⟨k, hk, rfl, hbr⟩ := hrel
      have hzr := hbr.size
      by_cases h2 : k < 2
      · obtain ⟨g, hg, hgs⟩ := HS.out k h2
        have g0 := pw_cell_below hbr hg
        have hcn := unpackP_canon g b2
        have cP := fun w1 (h : Below W0.heap.size W0 w1) => args_Unpack g A b2 c w1 (by omega) HB2.out.byt (by omega) hlb HB2.out.nil (HB2.out.below h).rd
        have cR := fun w1 (h : Below W0.heap.size W0 w1) => ref_Unpack g A b2 c w1 (by omega) HB2.out.byt (by omega) hlb HB2.out.nil (HB2.out.below h).rd
        unfold UnpP at cP
        unfold RefU at cR
        obtain ⟨r, hr⟩ : ∃ r, unpackP g b2 = r := ⟨_, rfl⟩
        rw [hr] at hcn cP cR
        obtain ⟨ec, L⟩ := r
        obtain ⟨hL8, hcan⟩ := hcn
        have hL8 : L.length ≤ 8 := hL8
        have HCN := Lib.hid (show ∀ i, i < L.length → Canon (at8 L i) ∧ (at8 L i).b.length ≤ 1000000 from fun i hi => by
          have := hcan _ (at8_mem hi)
          have h2 : (at8 L i).b.length ≤ b2.length := this.2
          exact ⟨this.1, by omega⟩)
        clear hr hg hcan
        simp only at cP cR
        go_wp2_with (first | (go_at_call 50; (with_reducible refine (cP _ ?_).mono ?_); (focus ((repeat (first | (with_reducible exact Below.refl _ _) | ((with_reducible refine Below.alloc ?_ ?hB _); (case hB => (first | omega | (simp; done) | (simp; omega)))) | ((with_reducible refine Below.setCell ?_ ?hB _); (case hB => (first | omega | (simp; done) | (simp; omega)))) | (with_reducible refine Below.drew ?_) | ((with_reducible refine below_ext_of ?_ ?hB); (case hB => (first | omega | (simp; done) | (simp; omega)))) | ((with_reducible refine Below.trans ?_ (Below.mono (by assumption) ?hB)); (case hB => (first | omega | (simp; done) | (simp; omega)))))); done)); rintro e w3 ⟨A3, c3, rfl, hc3, ha3, hb3⟩; have hz3 := hb3.size; have g3 := pw_cell_below hb3 g0; replace ha3 := Lib.hid ha3; clear cP) | (go_at_call 51; (with_reducible refine (cR _ ?_).mono ?_); (focus ((repeat (first | (with_reducible exact Below.refl _ _) | ((with_reducible refine Below.alloc ?_ ?hB _); (case hB => (first | omega | (simp; done) | (simp; omega)))) | ((with_reducible refine Below.setCell ?_ ?hB _); (case hB => (first | omega | (simp; done) | (simp; omega)))) | (with_reducible refine Below.drew ?_) | ((with_reducible refine below_ext_of ?_ ?hB); (case hB => (first | omega | (simp; done) | (simp; omega)))) | ((with_reducible refine Below.trans ?_ (Below.mono (by assumption) ?hB)); (case hB => (first | omega | (simp; done) | (simp; omega)))))); done)); rintro e w4 ⟨v4, rfl, ho4, hb4⟩; have hz4 := hb4.size; obtain ⟨A4, c4, rfl, hc4, hr4⟩ := ho4.row hb4; clear ho4; replace hr4 := Lib.hid hr4; clear cR))
        go_loopw [11] (fun i wr => ∃ j : Nat, j ≤ L.length ∧ i = .int .i64 j ∧ Below w4.heap.size w4 wr) (fun i _ => L.length - (intOf i).toNat)
        case atStart => exact ⟨0, by omega, rfl, Below.refl _ _⟩
        case round =>
          obtain ⟨j, hj, rfl, hbq⟩ := hrel
          have hzq := hbq.size
          by_cases hjl : j < L.length
          · have hcb := HCN.out j hjl
            obtain ⟨hca, hbL⟩ := hcb
            obtain ⟨ad, u, eA, hu, hau⟩ := ha3.out j hjl
            subst eA
            obtain ⟨ad4, Ab, m, eA, f0, f1, f2_, f3, f4, f5, f6, f7, hm, hrb⟩ := hr4.out j hjl
            subst eA
            have hb34 : Below w3.heap.size w3 wr := hb4.trans (hbq.mono hz4)
            have p0 := fun x => pw_cell_below (below_ext wr x) (pw_cell_below hb34 hu)
            have q0 := fun x => pw_cell_below (below_ext wr x) (pw_cell_below hbq f0); have q1 := fun x => pw_cell_below (below_ext wr x) (pw_cell_below hbq f1); have q2 := fun x => pw_cell_below (below_ext wr x) (pw_cell_below hbq f2_); have q3 := fun x => pw_cell_below (below_ext wr x) (pw_cell_below hbq f3)
            have q4 := fun x => pw_cell_below (below_ext wr x) (pw_cell_below hbq f4); have q5 := fun x => pw_cell_below (below_ext wr x) (pw_cell_below hbq f5); have q6 := fun x => pw_cell_below (below_ext wr x) (pw_cell_below hbq f6); have q7 := fun x => pw_cell_below (below_ext wr x) (pw_cell_below hbq f7)
            have cl := fun x => law_like (at8 L j) u Ab m (ext wr x) hca hbL ((hau.below hb34).below (below_ext wr x)) ((hrb.below hbq).below (below_ext wr x))
            clear hca hu hau f0 f1 f2_ f3 f4 f5 f6 f7 hrb
            generalize at8 L j = y at *
            go_wp2_with fail
            (refine wp_region_ext_lit (by kernel_rfl) (by kernel_rfl) ?_; (repeat (go_big_quiet_step (((go_at_call 52; with_reducible exact ext_call (cl _)))))); refine wpQuiet_nil ?_; intro w5 hb_w5; obtain ⟨hc_w5, hf_w5⟩ := bcell hb_w5; have hz_w5 := hb_w5.size; (try simp only [World.size_alloc, World.size_setCell, World.size_drew] at hz_w5))
            clear p0 q0 q1 q2 q3 q4 q5 q6 q7 cl
            go_wp2
            go_roundw
            case rel => exact ⟨j + 1, by omega, by go_num, hbq.trans (hb_w5.mono hzq)⟩
            case measure => simp [intOf]; omega
          · obtain rfl : j = L.length := by omega
            go_wp2
            go_roundw
            case rel => exact ⟨k + 1, by omega, by go_num, by (repeat (first | (with_reducible exact Below.refl _ _) | ((with_reducible refine Below.alloc ?_ ?hB _); (case hB => (first | omega | (simp; done) | (simp; omega)))) | ((with_reducible refine Below.setCell ?_ ?hB _); (case hB => (first | omega | (simp; done) | (simp; omega)))) | (with_reducible refine Below.drew ?_) | ((with_reducible refine below_ext_of ?_ ?hB); (case hB => (first | omega | (simp; done) | (simp; omega)))) | ((with_reducible refine Below.trans ?_ (Below.mono (by assumption) ?hB)); (case hB => (first | omega | (simp; done) | (simp; omega))))))⟩
            case measure => simp [intOf]; omega
      · obtain rfl : k = 2 := by omega
        go_wp2_with (first | (go_at_call 22; (with_reducible refine (args_lives _).mono ?_); rintro e w1 ⟨rfl, hb1⟩; obtain ⟨hc1, hf1⟩ := bcell hb1; have hz1 := hb1.size; (try simp only [World.size_alloc, World.size_setCell, World.size_drew] at hz1)))
        go_ret
        exact ⟨rfl, HBW.out.trans ((hbr.trans (hb1.mono hzr)).mono (by have := HBQ.out; omega))⟩
end Go.Proofs.Yteldbnelfeiifaa
