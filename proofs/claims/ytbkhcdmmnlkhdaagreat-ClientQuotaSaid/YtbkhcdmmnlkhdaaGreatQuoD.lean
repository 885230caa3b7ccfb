/- The law ClientQuota, walked. -/
import Derived.Test.YtbkhcdmmnlkhdaaGreatQuoC
namespace Go.Proofs.YtbkhcdmmnlkhdaaGreat
open Go.RowKit Go.Maps Go.Proofs.YtbkhcdmmnlkhdaaGreatW.PrintWords
set_option linter.unusedSimpArgs false
set_option linter.unusedVariables false
set_option maxRecDepth 1000000
theorem of_len {w : World} {base : Nat} {v : Value} {l : List Int} (h : w.ownsRow base 3 1 v l.length (nums .i64 l)) : ∃ A c, v = .slice A l.length c := by
  obtain ⟨A, c, hv, _, _⟩ := OwnG.rd (E := EI .i64) (own_int.2 h)
  exact ⟨A, c, hv⟩
set_option maxHeartbeats 4000000 in
theorem walk_ClientQuota (n0 m0 : Int) (w : World) (hn0 : -9223372036854775808 ≤ n0 ∧ n0 ≤ 9223372036854775807) (hm0 : -9223372036854775808 ≤ m0 ∧ m0 ≤ 9223372036854775807) : Calls Tryz.prog 3 #[.int .i64 n0, .int .i64 m0] w fun e w' => e = .returned (.bool true) ∧ Below w.heap.size w w' := by
  have cN := cli_New
  unfold NewC at cN
  have cA := fun W => ref_Around n0 41 W hn0.1 hn0.2 (by omega) (by omega)
  have cB := fun W => ref_Around m0 41 W hm0.1 hm0.2 (by omega) (by omega)
  have hbA := around_bd n0 41 (by omega)
  have hbB := around_bd m0 41 (by omega)
  obtain ⟨n, hn⟩ : ∃ n : Nat, around n0 41 = n := ⟨(around n0 41).toNat, by omega⟩
  obtain ⟨m, hm⟩ : ∃ m : Nat, around m0 41 = m := ⟨(around m0 41).toNat, by omega⟩
  rw [hn] at cA hbA
  rw [hm] at cB hbB
  have hn40 : n ≤ 40 := by omega
  have hm40 : m ≤ 40 := by omega
  clear hn hm hbA hbB
  go_enter Tryz.func3, Tryz.ntmps3
  go_wp2_with (first
    | (go_at_call 8; (with_reducible refine (cN _).mono ?_); rintro e w1 ⟨c, t, bm, p, pm, sm, rfl, hc1, hf1, hb1⟩; have hz1 := hb1.size; replace hc1 := Lib.hid hc1; replace hf1 := Lib.hid hf1)
    | (go_at_call 9; (with_reducible refine (cA _).mono ?_); rintro e w1 ⟨rfl, rfl⟩)
    | (go_at_call 9; (with_reducible refine (cB _).mono ?_); rintro e w1 ⟨rfl, rfl⟩))
  go_loopw [6] (fun i wr => ∃ (k : Nat) (s : CS), k ≤ n + m ∧ i = .int .i64 k ∧ Hid (Cli wr c s) ∧ Hid (QI s n k) ∧ Hid (∀ j, s.foot c j → w.heap.size ≤ j) ∧ Below w.heap.size w wr) (fun i _ => n + m - (intOf i).toNat)
  case atStart => exact ⟨0, _, by omega, rfl, hc1, Lib.hid (QI.zero _ _ _ _ _ _), hf1, hb1⟩
  case round =>
    obtain ⟨k, s, hk, rfl, hC, hQ, hF, hbr⟩ := hrel
    have hzr := hbr.size
    by_cases hkl : k < n + m
    · have hkz : (k : Int) < (n : Int) + m := by omega
      have hw1 : IntKind.i64.wrap ((n : Int) + m) = (n : Int) + m := by rw [IntKind.wrap_i64]; omega
      have hw2 : IntKind.i64.wrap (1 + (k : Int)) = 1 + (k : Int) := by rw [IntKind.wrap_i64]; omega
      have hcast : ((1 + k : Nat) : Int) = 1 + (k : Int) := by omega
      by_cases hkn : k < n
      · have hkn' : ¬ (k : Int) ≥ n := by omega
        by_cases h32 : k < 32
        · skip
          have h32' : (k : Int) < 32 := by omega
          have cS := fun W => law_as15 (rqM k) W
          have cD := fun W (hb : Below wr.heap.size wr W) => q_makeOk c n k w.heap.size s W (hC.out.below hb) hQ.out h32 hkn hF.out (by have := hb.size; omega)
          unfold rqM Rq.v Rq.cells at cS cD
          unfold OkP at cD
          rw [hcast] at cS cD
          go_wp2_with (first
            | (go_at_call 11; (with_reducible refine (cS _).mono ?_); rintro e w1 ⟨rfl, hb1⟩; obtain ⟨hc1, hf1⟩ := bcell hb1; have hz1 := hb1.size; (try simp only [World.size_alloc, World.size_setCell, World.size_drew] at hz1))
            | (go_at_call 10; (with_reducible refine (cD _ ?_).mono ?_); (focus ((repeat (first | (with_reducible exact Below.refl _ _) | ((with_reducible refine Below.alloc ?_ ?hB _); (case hB => (first | omega | (simp; done) | (simp; omega)))) | ((with_reducible refine Below.setCell ?_ ?hB _); (case hB => (first | omega | (simp; done) | (simp; omega)))) | (with_reducible refine Below.drew ?_) | ((with_reducible refine below_ext_of ?_ ?hB); (case hB => (first | omega | (simp; done) | (simp; omega)))) | ((with_reducible refine Below.trans ?_ (Below.mono (by assumption) ?hB)); (case hB => (first | omega | (simp; done) | (simp; omega)))))); done)); rintro e w5 ⟨rfl, s', hC5, hQ5, hF5, hb5⟩; replace hC5 := Lib.hid hC5; replace hQ5 := Lib.hid hQ5; replace hF5 := Lib.hid hF5))
          go_roundw
          case rel => exact ⟨k + 1, s', by omega, by go_num, hC5, hQ5, hF5, by (repeat (first | (with_reducible exact Below.refl _ _) | ((with_reducible refine Below.alloc ?_ ?hB _); (case hB => (first | omega | (simp; done) | (simp; omega)))) | ((with_reducible refine Below.setCell ?_ ?hB _); (case hB => (first | omega | (simp; done) | (simp; omega)))) | (with_reducible refine Below.drew ?_) | ((with_reducible refine below_ext_of ?_ ?hB); (case hB => (first | omega | (simp; done) | (simp; omega)))) | ((with_reducible refine Below.trans ?_ (Below.mono (by assumption) ?hB)); (case hB => (first | omega | (simp; done) | (simp; omega))))))⟩
          case measure => simp [intOf]; omega
        · skip
          have h32' : ¬ (k : Int) < 32 := by omega
          have cS := fun W => law_as15 (rqM k) W
          have cD := fun W (hb : Below wr.heap.size wr W) => q_makeNo c n k w.heap.size s W (hC.out.below hb) hQ.out (by omega) (by omega) hF.out (by have := hb.size; omega)
          have hFl : ∀ j, s.foot c j → j < wr.heap.size := fun j hj => hC.out.foot_lt hj
          unfold rqM Rq.v Rq.cells at cS cD
          unfold NoP at cD
          rw [hcast] at cS cD
          go_wp2_with (first
            | (go_at_call 11; (with_reducible refine (cS _).mono ?_); rintro e w1 ⟨rfl, hb1⟩; obtain ⟨hc1, hf1⟩ := bcell hb1; have hz1 := hb1.size; (try simp only [World.size_alloc, World.size_setCell, World.size_drew] at hz1))
            | (go_at_call 10; (with_reducible refine (cD _ ?_).mono ?_); (focus ((repeat (first | (with_reducible exact Below.refl _ _) | ((with_reducible refine Below.alloc ?_ ?hB _); (case hB => (first | omega | (simp; done) | (simp; omega)))) | ((with_reducible refine Below.setCell ?_ ?hB _); (case hB => (first | omega | (simp; done) | (simp; omega)))) | (with_reducible refine Below.drew ?_) | ((with_reducible refine below_ext_of ?_ ?hB); (case hB => (first | omega | (simp; done) | (simp; omega)))) | ((with_reducible refine Below.trans ?_ (Below.mono (by assumption) ?hB)); (case hB => (first | omega | (simp; done) | (simp; omega)))))); done)); rintro e w5 ⟨g, rfl, hg, hC5, hb5, hk5⟩; obtain ⟨hc5, hf5⟩ := fcell hk5 hFl; have hz5 := hk5.size; (try simp only [World.size_drew, World.size_alloc, World.size_setCell] at hz5); have hgl := blk_lt hg; replace hC5 := Lib.hid hC5; replace hg := Lib.hid hg; clear hk5)
            | (go_at_call 12; (refine (law_events1 g w5.heap.size ⟨0, 1 + (k : Int), 10, 0⟩ _ ?_ ?_).mono ?_); (focus (exact blk_alloc hg.out _)); (focus (exact blk_new w5 _)); rintro e w6 ⟨rfl, hb6⟩))
          go_roundw
          case rel => exact ⟨k + 1, s, by omega, by go_num, Lib.hid (hC5.out.below (by (repeat (first | (with_reducible exact Below.refl _ _) | ((with_reducible refine Below.alloc ?_ ?hB _); (case hB => (first | omega | (simp; done) | (simp; omega)))) | ((with_reducible refine Below.setCell ?_ ?hB _); (case hB => (first | omega | (simp; done) | (simp; omega)))) | (with_reducible refine Below.drew ?_) | ((with_reducible refine below_ext_of ?_ ?hB); (case hB => (first | omega | (simp; done) | (simp; omega)))) | ((with_reducible refine Below.trans ?_ (Below.mono (by assumption) ?hB)); (case hB => (first | omega | (simp; done) | (simp; omega)))))))), Lib.hid (hQ.out.more (by omega)), hF, by (repeat (first | (with_reducible exact Below.refl _ _) | ((with_reducible refine Below.alloc ?_ ?hB _); (case hB => (first | omega | (simp; done) | (simp; omega)))) | ((with_reducible refine Below.setCell ?_ ?hB _); (case hB => (first | omega | (simp; done) | (simp; omega)))) | (with_reducible refine Below.drew ?_) | ((with_reducible refine below_ext_of ?_ ?hB); (case hB => (first | omega | (simp; done) | (simp; omega)))) | ((with_reducible refine Below.trans ?_ (Below.mono (by assumption) ?hB)); (case hB => (first | omega | (simp; done) | (simp; omega))))))⟩
          case measure => simp [intOf]; omega
      · have hkn' : (k : Int) ≥ n := by omega
        by_cases h32 : k < 32
        · skip
          have h32' : (k : Int) < 32 := by omega
          have cS := fun W => law_as15 (rqS k) W
          have cD := fun W (hb : Below wr.heap.size wr W) => q_surfOk c n k w.heap.size s W (hC.out.below hb) hQ.out h32 hkn hF.out (by have := hb.size; omega)
          unfold rqS Rq.v Rq.cells at cS cD
          unfold OkP at cD
          rw [hcast] at cS cD
          go_wp2_with (first
            | (go_at_call 11; (with_reducible refine (cS _).mono ?_); rintro e w1 ⟨rfl, hb1⟩; obtain ⟨hc1, hf1⟩ := bcell hb1; have hz1 := hb1.size; (try simp only [World.size_alloc, World.size_setCell, World.size_drew] at hz1))
            | (go_at_call 10; (with_reducible refine (cD _ ?_).mono ?_); (focus ((repeat (first | (with_reducible exact Below.refl _ _) | ((with_reducible refine Below.alloc ?_ ?hB _); (case hB => (first | omega | (simp; done) | (simp; omega)))) | ((with_reducible refine Below.setCell ?_ ?hB _); (case hB => (first | omega | (simp; done) | (simp; omega)))) | (with_reducible refine Below.drew ?_) | ((with_reducible refine below_ext_of ?_ ?hB); (case hB => (first | omega | (simp; done) | (simp; omega)))) | ((with_reducible refine Below.trans ?_ (Below.mono (by assumption) ?hB)); (case hB => (first | omega | (simp; done) | (simp; omega)))))); done)); rintro e w5 ⟨rfl, s', hC5, hQ5, hF5, hb5⟩; replace hC5 := Lib.hid hC5; replace hQ5 := Lib.hid hQ5; replace hF5 := Lib.hid hF5))
          go_roundw
          case rel => exact ⟨k + 1, s', by omega, by go_num, hC5, hQ5, hF5, by (repeat (first | (with_reducible exact Below.refl _ _) | ((with_reducible refine Below.alloc ?_ ?hB _); (case hB => (first | omega | (simp; done) | (simp; omega)))) | ((with_reducible refine Below.setCell ?_ ?hB _); (case hB => (first | omega | (simp; done) | (simp; omega)))) | (with_reducible refine Below.drew ?_) | ((with_reducible refine below_ext_of ?_ ?hB); (case hB => (first | omega | (simp; done) | (simp; omega)))) | ((with_reducible refine Below.trans ?_ (Below.mono (by assumption) ?hB)); (case hB => (first | omega | (simp; done) | (simp; omega))))))⟩
          case measure => simp [intOf]; omega
        · skip
          have h32' : ¬ (k : Int) < 32 := by omega
          have cS := fun W => law_as15 (rqS k) W
          have cD := fun W (hb : Below wr.heap.size wr W) => q_surfNo c n k w.heap.size s W (hC.out.below hb) hQ.out (by omega) (by omega) hF.out (by have := hb.size; omega)
          have hFl : ∀ j, s.foot c j → j < wr.heap.size := fun j hj => hC.out.foot_lt hj
          unfold rqS Rq.v Rq.cells at cS cD
          unfold NoP at cD
          rw [hcast] at cS cD
          go_wp2_with (first
            | (go_at_call 11; (with_reducible refine (cS _).mono ?_); rintro e w1 ⟨rfl, hb1⟩; obtain ⟨hc1, hf1⟩ := bcell hb1; have hz1 := hb1.size; (try simp only [World.size_alloc, World.size_setCell, World.size_drew] at hz1))
            | (go_at_call 10; (with_reducible refine (cD _ ?_).mono ?_); (focus ((repeat (first | (with_reducible exact Below.refl _ _) | ((with_reducible refine Below.alloc ?_ ?hB _); (case hB => (first | omega | (simp; done) | (simp; omega)))) | ((with_reducible refine Below.setCell ?_ ?hB _); (case hB => (first | omega | (simp; done) | (simp; omega)))) | (with_reducible refine Below.drew ?_) | ((with_reducible refine below_ext_of ?_ ?hB); (case hB => (first | omega | (simp; done) | (simp; omega)))) | ((with_reducible refine Below.trans ?_ (Below.mono (by assumption) ?hB)); (case hB => (first | omega | (simp; done) | (simp; omega)))))); done)); rintro e w5 ⟨g, rfl, hg, hC5, hb5, hk5⟩; obtain ⟨hc5, hf5⟩ := fcell hk5 hFl; have hz5 := hk5.size; (try simp only [World.size_drew, World.size_alloc, World.size_setCell] at hz5); have hgl := blk_lt hg; replace hC5 := Lib.hid hC5; replace hg := Lib.hid hg; clear hk5)
            | (go_at_call 12; (refine (law_events1 g w5.heap.size ⟨0, 1 + (k : Int), 10, 3⟩ _ ?_ ?_).mono ?_); (focus (exact blk_alloc hg.out _)); (focus (exact blk_new w5 _)); rintro e w6 ⟨rfl, hb6⟩))
          go_roundw
          case rel => exact ⟨k + 1, s, by omega, by go_num, Lib.hid (hC5.out.below (by (repeat (first | (with_reducible exact Below.refl _ _) | ((with_reducible refine Below.alloc ?_ ?hB _); (case hB => (first | omega | (simp; done) | (simp; omega)))) | ((with_reducible refine Below.setCell ?_ ?hB _); (case hB => (first | omega | (simp; done) | (simp; omega)))) | (with_reducible refine Below.drew ?_) | ((with_reducible refine below_ext_of ?_ ?hB); (case hB => (first | omega | (simp; done) | (simp; omega)))) | ((with_reducible refine Below.trans ?_ (Below.mono (by assumption) ?hB)); (case hB => (first | omega | (simp; done) | (simp; omega)))))))), Lib.hid (hQ.out.more (by omega)), hF, by (repeat (first | (with_reducible exact Below.refl _ _) | ((with_reducible refine Below.alloc ?_ ?hB _); (case hB => (first | omega | (simp; done) | (simp; omega)))) | ((with_reducible refine Below.setCell ?_ ?hB _); (case hB => (first | omega | (simp; done) | (simp; omega)))) | (with_reducible refine Below.drew ?_) | ((with_reducible refine below_ext_of ?_ ?hB); (case hB => (first | omega | (simp; done) | (simp; omega)))) | ((with_reducible refine Below.trans ?_ (Below.mono (by assumption) ?hB)); (case hB => (first | omega | (simp; done) | (simp; omega))))))⟩
          case measure => simp [intOf]; omega
    · obtain rfl : k = n + m := by omega
      have hkz : ¬ ((n + m : Nat) : Int) < (n : Int) + m := by omega
      have hw1 : IntKind.i64.wrap ((n : Int) + m) = (n : Int) + m := by rw [IntKind.wrap_i64]; omega
      have hL := hQ.out.L
      have hnd : (s.L.map (·.1)).Nodup := by rw [hL]; exact LL_nodup _ _
      have hl1 : s.L.length ≤ 1000 := by rw [hL, LL_len]; omega
      have cU := fun W (hb : Below wr.heap.size wr W) => cli_Buffers c s W (hC.out.below hb) hnd hl1
      have cV := fun W (hb : Below wr.heap.size wr W) => cli_Surfaces c s W (hC.out.below hb) hnd hl1
      have h1 : (idsK s.L 1).length = min n (min (n + m) 32) := by rw [hL, LL_one]
      have h2 : (idsK s.L 2).length = min (n + m) 32 - min n (min (n + m) 32) := by rw [hL, LL_two]
      have cL := law_lives
      unfold OfP at cU cV
      generalize idsK s.L 1 = l1 at *
      generalize idsK s.L 2 = l2 at *
      have e1 : ((l1.length : Int) == min (n : Int) 32) = true := by rw [beq_iff_eq, h1]; omega
      have e2 : ((l2.length : Int) == min (m : Int) (max (32 - (n : Int)) 0)) = true := by rw [beq_iff_eq, h2]; omega
      clear hL hnd hl1 h1 h2
      go_wp2_with (first
        | (go_at_call 13; (with_reducible refine (cU _ ?_).mono ?_); (focus ((repeat (first | (with_reducible exact Below.refl _ _) | ((with_reducible refine Below.alloc ?_ ?hB _); (case hB => (first | omega | (simp; done) | (simp; omega)))) | ((with_reducible refine Below.setCell ?_ ?hB _); (case hB => (first | omega | (simp; done) | (simp; omega)))) | (with_reducible refine Below.drew ?_) | ((with_reducible refine below_ext_of ?_ ?hB); (case hB => (first | omega | (simp; done) | (simp; omega)))) | ((with_reducible refine Below.trans ?_ (Below.mono (by assumption) ?hB)); (case hB => (first | omega | (simp; done) | (simp; omega)))))); done)); rintro e w5 ⟨v5, rfl, ho5, hb5⟩; obtain ⟨A5, c5, rfl⟩ := of_len ho5; have hz5 := hb5.size; (try simp only [World.size_drew] at hz5))
        | (go_at_call 14; (with_reducible refine (cV _ ?_).mono ?_); (focus ((repeat (first | (with_reducible exact Below.refl _ _) | ((with_reducible refine Below.alloc ?_ ?hB _); (case hB => (first | omega | (simp; done) | (simp; omega)))) | ((with_reducible refine Below.setCell ?_ ?hB _); (case hB => (first | omega | (simp; done) | (simp; omega)))) | (with_reducible refine Below.drew ?_) | ((with_reducible refine below_ext_of ?_ ?hB); (case hB => (first | omega | (simp; done) | (simp; omega)))) | ((with_reducible refine Below.trans ?_ (Below.mono (by assumption) ?hB)); (case hB => (first | omega | (simp; done) | (simp; omega)))))); done)); rintro e w6 ⟨v6, rfl, ho6, hb6⟩; obtain ⟨A6, c6, rfl⟩ := of_len ho6; have hz6 := hb6.size; (try simp only [World.size_drew] at hz6))
        | (go_at_call 15; (with_reducible refine (cL _).mono ?_); rintro e w1 ⟨rfl, hb1⟩; obtain ⟨hc1, hf1⟩ := bcell hb1; have hz1 := hb1.size; (try simp only [World.size_alloc, World.size_setCell, World.size_drew] at hz1)))
      go_ret
      exact ⟨rfl, by (repeat (first | (with_reducible exact Below.refl _ _) | ((with_reducible refine Below.alloc ?_ ?hB _); (case hB => (first | omega | (simp; done) | (simp; omega)))) | ((with_reducible refine Below.setCell ?_ ?hB _); (case hB => (first | omega | (simp; done) | (simp; omega)))) | (with_reducible refine Below.drew ?_) | ((with_reducible refine below_ext_of ?_ ?hB); (case hB => (first | omega | (simp; done) | (simp; omega)))) | ((with_reducible refine Below.trans ?_ (Below.mono (by assumption) ?hB)); (case hB => (first | omega | (simp; done) | (simp; omega))))))⟩
end Go.Proofs.YtbkhcdmmnlkhdaaGreat
