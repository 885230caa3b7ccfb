/- The program's message of bytes, walked: the other case. -/
import Derived.Test.YtinnaiofgbjicaaDoorFrB
namespace Go.Proofs.YtinnaiofgbjicaaDoor
open Go.RowKit Go.Proofs.YtinnaiofgbjicaaDoorW.PrintWords
set_option linter.unusedSimpArgs false
set_option linter.unusedVariables false
set_option maxRecDepth 1000000
set_option maxHeartbeats 12000000 in
theorem frame_ReadOkN (A : Option Addr) (b : List Int) (c k : Nat) (w : World) (hs : BS w A b c) (h : 2 ≤ b.length) (hk : numH b = (k : Int)) (h7 : 7 ≤ k) (h8 : k ≤ 4103) (hkl : k ≤ b.length) (hc7 : ¬ c = 7) : Calls Tryd.prog 88 #[.slice A b.length c] w (RdP w (fun g => w.heap.size ≤ g) (.inr (⟨b.getD 2 0, numU (b.drop 3), (b.take k).drop 7⟩, k))) := by
  have hs2 := hs.take 2 h
  have hl2 : (b.take 2).length = 2 := by simp; omega
  have hle := hs.le
  have cN : ∀ w1, Below w.heap.size w w1 → Calls Tryd.prog 103 #[.slice A 2 c] w1 fun e w' => e = .returned (.int .i64 (k : Int)) ∧ w1 = w' := fun w1 hb => by
    have := num_2 A (b.take 2) c w1 hl2 hs2.byt (by have := (hs2.below hb).rd; rwa [hl2] at this)
    rwa [numH_take _ _ (Nat.le_refl _), hk] at this
  obtain ⟨ad, rfl, hcell⟩ := hs.rd.2.2 (by omega)
  have q2 : w.cell? { ad with off := ad.off + 2, spot := none } = some (.int .u8 (b.getD 2 0)) := hcell 2 (by omega)
  have y2 := hs.byt.at_ 2
  have hl4 : ((b.drop 3).take 4).length = 4 := by simp; omega
  have c4 : ∀ w1, Below w.heap.size w w1 → Calls Tryd.prog 103 #[.slice (some { ad with off := ad.off + 3, spot := none }) 4 (c - 3)] w1 fun e w' => e = .returned (.int .i64 (numU (b.drop 3))) ∧ w1 = w' := fun w1 hb => by
    have := num_4 (some (ad.add 3)) ((b.drop 3).take 4) (c - 3) w1 hl4 ((hs.byt.drop 3).take 4) (reads_take (reads_drop (hs.rd.below hb) (by omega)) (by omega))
    rw [numU_take _ _ (Nat.le_refl _)] at this
    exact this
  have hl7 : ((b.take k).drop 7).length = k - 7 := by simp; omega
  have HYB := Lib.hid (show Byt ((b.take k).drop 7) from (hs.byt.take k).drop 7)
  have cC : ∀ w1, Below w.heap.size w w1 → ∀ m, Calls Tryd.prog 104 #[.slice (some { ad with off := ad.off + 7, spot := none }) (k - 7) m] w1 fun en w' => ∃ v, en = .returned v ∧ w'.ownsRow w1.heap.size 5 1 v (k - 7) (nums .u8 ((b.take k).drop 7)) ∧ Below w1.heap.size w1 w' := fun w1 hb m => by
    have hr := reads_drop (reads_take (hs.rd.below hb) (show k ≤ b.length by omega)) (show 7 ≤ k by omega)
    have := sl_Clone (some (ad.add 7)) (k - 7) m ((b.take k).drop 7) w1 (by omega) hr
    unfold CloneP at this
    rw [hl7] at this
    exact this
  have HS := Lib.hid hs
  obtain ⟨z2, hz2⟩ : ∃ z, b.getD 2 0 = z := ⟨_, rfl⟩
  obtain ⟨zi, hzi⟩ : ∃ z, numU (b.drop 3) = z := ⟨_, rfl⟩
  obtain ⟨bb, hbb⟩ : ∃ bb, (b.take k).drop 7 = bb := ⟨_, rfl⟩
  rw [hz2] at q2 y2 ⊢; rw [hzi] at c4 ⊢; rw [hbb] at cC HYB hl7 ⊢
  obtain ⟨ya, yb⟩ := y2
  have hwz : IntKind.i64.wrap z2 = z2 := by rw [IntKind.wrap_i64]; omega
  have HL := Lib.hid hl7
  have Q2 := Lib.hid q2
  have hlo : ad.block < w.heap.size := (by have := lt_of_cell q2; exact this)
  clear hs hs2 hl2 hl4 hcell hz2 hzi hbb hk hl7
  go_enter Tryd.func88, Tryd.ntmps88
  go_wp2_with (first | (go_at_call 103; (with_reducible refine (cN _ ?_).mono ?_); (focus ((repeat (first | (with_reducible exact Below.refl _ _) | ((with_reducible refine Below.alloc ?_ ?hB _); (case hB => (first | omega | (simp; done) | (simp; omega)))) | ((with_reducible refine Below.setCell ?_ ?hB _); (case hB => (first | omega | (simp; done) | (simp; omega)))) | (with_reducible refine Below.drew ?_) | ((with_reducible refine below_ext_of ?_ ?hB); (case hB => (first | omega | (simp; done) | (simp; omega)))) | ((with_reducible refine Below.trans ?_ (Below.mono (by assumption) ?hB)); (case hB => (first | omega | (simp; done) | (simp; omega)))))); done)); rintro en w9 ⟨rfl, rfl⟩))
  go_region_with (first | (go_at_call 103; (with_reducible refine (c4 _ ?_).mono ?_); (focus ((repeat (first | (with_reducible exact Below.refl _ _) | ((with_reducible refine Below.alloc ?_ ?hB _); (case hB => (first | omega | (simp; done) | (simp; omega)))) | ((with_reducible refine Below.setCell ?_ ?hB _); (case hB => (first | omega | (simp; done) | (simp; omega)))) | (with_reducible refine Below.drew ?_) | ((with_reducible refine below_ext_of ?_ ?hB); (case hB => (first | omega | (simp; done) | (simp; omega)))) | ((with_reducible refine Below.trans ?_ (Below.mono (by assumption) ?hB)); (case hB => (first | omega | (simp; done) | (simp; omega)))))); done)); rintro en w9 ⟨rfl, rfl⟩) | (go_at_call 104; (with_reducible refine (cC _ ?_ _).mono ?_); (focus ((repeat (first | (with_reducible exact Below.refl _ _) | ((with_reducible refine Below.alloc ?_ ?hB _); (case hB => (first | omega | (simp; done) | (simp; omega)))) | ((with_reducible refine Below.setCell ?_ ?hB _); (case hB => (first | omega | (simp; done) | (simp; omega)))) | (with_reducible refine Below.drew ?_) | ((with_reducible refine below_ext_of ?_ ?hB); (case hB => (first | omega | (simp; done) | (simp; omega)))) | ((with_reducible refine Below.trans ?_ (Below.mono (by assumption) ?hB)); (case hB => (first | omega | (simp; done) | (simp; omega)))))); done)); rintro en w5 ⟨v5, rfl, ho5, hb5⟩; obtain ⟨A5, c5, rfl, hs5, hge5⟩ := BS.own' ho5 HYB.out; replace hge5 := Lib.hid hge5; clear ho5; have hz5 := hb5.size; obtain ⟨hc5, hf5⟩ := bcell hb5; replace hs5 := Lib.hid hs5; (try simp only [World.size_alloc, World.size_setCell, World.size_drew] at hz5)))
  all_goals
    go_wp2
    refine bodyPost_ret (v := .tuple #[(.agg #[.int .i64 (z2), .int .i64 (zi), .slice (A5) ((k - 7)) (c5)]), .int .i64 k, .int .i64 0]) (by simp [results, Tryd.results88, go_sem, ↓IntWalk.iteOmega, *]) rfl ?_
    exact ⟨A5, c5, by rw [HL.out], BS.set3 (hs5.out.below (by (repeat (first | (with_reducible exact Below.refl _ _) | ((with_reducible refine Below.alloc ?_ ?hB _); (case hB => (first | omega | (simp; done) | (simp; omega)))) | ((with_reducible refine Below.setCell ?_ ?hB _); (case hB => (first | omega | (simp; done) | (simp; omega)))) | (with_reducible refine Below.drew ?_) | ((with_reducible refine below_ext_of ?_ ?hB); (case hB => (first | omega | (simp; done) | (simp; omega)))) | ((with_reducible refine Below.trans ?_ (Below.mono (by assumption) ?hB)); (case hB => (first | omega | (simp; done) | (simp; omega)))))))) ((show Below (w.heap.size + 1) (w.alloc (.cells #[.int .i64 0, .int .i64 0, .slice none 0 0] 24)) _ from by (repeat (first | (with_reducible exact Below.refl _ _) | ((with_reducible refine Below.alloc ?_ ?hB _); (case hB => (first | omega | (simp; done) | (simp; omega)))) | ((with_reducible refine Below.setCell ?_ ?hB _); (case hB => (first | omega | (simp; done) | (simp; omega)))) | (with_reducible refine Below.drew ?_) | ((with_reducible refine below_ext_of ?_ ?hB); (case hB => (first | omega | (simp; done) | (simp; omega)))) | ((with_reducible refine Below.trans ?_ (Below.mono (by assumption) ?hB)); (case hB => (first | omega | (simp; done) | (simp; omega))))))).block (w.heap.size) (by omega)) (heap_alloc_new _ _) _ _ _, by (repeat (first | (with_reducible exact Below.refl _ _) | ((with_reducible refine Below.alloc ?_ ?hB _); (case hB => (first | omega | (simp; done) | (simp; omega)))) | ((with_reducible refine Below.setCell ?_ ?hB _); (case hB => (first | omega | (simp; done) | (simp; omega)))) | (with_reducible refine Below.drew ?_) | ((with_reducible refine below_ext_of ?_ ?hB); (case hB => (first | omega | (simp; done) | (simp; omega)))) | ((with_reducible refine Below.trans ?_ (Below.mono (by assumption) ?hB)); (case hB => (first | omega | (simp; done) | (simp; omega)))))), fun _ ad hA => Nat.le_trans (by (try simp only [World.size_alloc, World.size_drew]); omega) (hge5.out ad hA)⟩
theorem frame_ReadOk (A : Option Addr) (b : List Int) (c k : Nat) (w : World) (hs : BS w A b c) (h : 2 ≤ b.length) (hk : numH b = (k : Int)) (h7 : 7 ≤ k) (h8 : k ≤ 4103) (hkl : k ≤ b.length) : Calls Tryd.prog 88 #[.slice A b.length c] w (RdP w (fun g => w.heap.size ≤ g) (.inr (⟨b.getD 2 0, numU (b.drop 3), (b.take k).drop 7⟩, k))) := by
  by_cases hc7 : c = 7
  · exact frame_ReadOk7 A b c k w hs h hk h7 h8 hkl hc7
  · exact frame_ReadOkN A b c k w hs h hk h7 h8 hkl hc7
end Go.Proofs.YtinnaiofgbjicaaDoor
