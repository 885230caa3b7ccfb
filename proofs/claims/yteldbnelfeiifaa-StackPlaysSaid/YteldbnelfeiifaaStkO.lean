/- A key put at a place of what is left without it, walked. -/
import Derived.Test.YteldbnelfeiifaaStkM
namespace Go.Proofs.Yteldbnelfeiifaa
open Go.RowKit Go.Proofs.YteldbnelfeiifaaW.PrintWords
set_option linter.unusedSimpArgs false
set_option linter.unusedVariables false
set_option maxRecDepth 1000000
attribute [local go_sem high] eqK eqKS
set_option maxHeartbeats 2000000 in theorem to_Top (x : Value) (p : Nat) (l : List K2) (k : K2) (r : Nat) (ri : Int) (w : World) (hri : (r : Int) = ri) (hl : l.length ≤ 10000) (hrl : r ≤ (dropL l k).length) (h : Stk w p l) (hP : ∀ w1 w2, StkP w p (dropL l k) w1 → Below w1.heap.size w1 w2 → Calls Try.prog 63 #[x] w2 fun e w' => e = .returned (.int .i64 ri) ∧ Below w2.heap.size w2 w') : Calls Try.prog 59 #[(.pointer (some ⟨p, 0, none⟩)), (.agg #[.int .i64 (k).c, .int .i64 (k).i]), .func (.func 63) #[] #[x]] w (ToP w p l k r) := by
  have hS := fun w' (hb : Below w.heap.size w w') => Stk.below h hb
  have H := Lib.hid h
  by_cases hk : k ∈ l
  · have cD : ∀ w, Stk w p l → Calls Try.prog 45 #[(.pointer (some ⟨p, 0, none⟩)), (.agg #[.int .i64 (k).c, .int .i64 (k).i])] w fun e w' => e = .returned (.bool true) ∧ StkP w p (dropL l k) w' := fun w h => by have := stk_Drop p l k w hl h; unfold DropSP at this; rwa [decide_eq_true hk] at this
    have hml : (dropL l k).length ≤ 10000 := Nat.le_trans (dropL_len l k) hl
    have hmk := dropL_not l k
    obtain ⟨m, hm⟩ : ∃ m, dropL l k = m := ⟨_, rfl⟩
    have HT := Lib.hid (show ∀ e w', ToP w p l k r e w' = (e = .returned (.int .i64 0) ∧ StkP w p (insL m r k) w') from fun e w' => by unfold ToP; rw [if_pos hk, hm])
    rw [hm] at cD hml hmk hrl hP
    clear hm hk h
    go_enter Try.func59, Try.ntmps59
    go_wp2_with (first | (go_at_call 45; (with_reducible refine (cD _ (hS _ ?_)).mono ?_); (focus ((repeat (first | (with_reducible exact Below.refl _ _) | ((with_reducible refine Below.alloc ?_ ?hB _); (case hB => (first | omega | (simp; done) | (simp; omega)))) | ((with_reducible refine Below.setCell ?_ ?hB _); (case hB => (first | omega | (simp; done) | (simp; omega)))) | (with_reducible refine Below.drew ?_) | ((with_reducible refine below_ext_of ?_ ?hB); (case hB => (first | omega | (simp; done) | (simp; omega)))) | ((with_reducible refine Below.trans ?_ (Below.mono (by assumption) ?hB)); (case hB => (first | omega | (simp; done) | (simp; omega)))))); done)); rintro e w2 ⟨rfl, hs2⟩))
    have hs0 := Lib.hid (show StkP w p m w2 from (StkP.of_below H.out (by (repeat (first | (with_reducible exact Below.refl _ _) | ((with_reducible refine Below.alloc ?_ ?hB _); (case hB => (first | omega | (simp; done) | (simp; omega)))) | ((with_reducible refine Below.setCell ?_ ?hB _); (case hB => (first | omega | (simp; done) | (simp; omega)))) | (with_reducible refine Below.drew ?_) | ((with_reducible refine below_ext_of ?_ ?hB); (case hB => (first | omega | (simp; done) | (simp; omega)))) | ((with_reducible refine Below.trans ?_ (Below.mono (by assumption) ?hB)); (case hB => (first | omega | (simp; done) | (simp; omega)))))))).trans hs2)
    obtain ⟨A, c, h1, h2, h3⟩ := hs2.1.open_
    have hc := cell_one h1
    have hfp := blk_frozen h1 0
    have hlt2 := hs2.1.lt
    have hwlt := H.out.lt
    have hnd := hs2.1.nodup
    have hbox : w2.heap[w.heap.size]? = some (.cells #[.int .i64 k.c, .int .i64 k.i] 62 (0, 0)) :=
      (hs2.2.2.2 w.heap.size (by simp) (H.out.free (by (repeat (first | (with_reducible exact Below.refl _ _) | ((with_reducible refine Below.alloc ?_ ?hB _); (case hB => (first | omega | (simp; done) | (simp; omega)))) | ((with_reducible refine Below.setCell ?_ ?hB _); (case hB => (first | omega | (simp; done) | (simp; omega)))) | (with_reducible refine Below.drew ?_) | ((with_reducible refine below_ext_of ?_ ?hB); (case hB => (first | omega | (simp; done) | (simp; omega)))) | ((with_reducible refine Below.trans ?_ (Below.mono (by assumption) ?hB)); (case hB => (first | omega | (simp; done) | (simp; omega))))))) (Nat.le_refl _))).1.trans (heap_alloc_new w _)
    have hk0 : w2.cell? ⟨w.heap.size, 0, none⟩ = some (.int .i64 k.c) := by simp [World.cell?, hbox]
    have hk1 : w2.cell? ⟨w.heap.size, 1, none⟩ = some (.int .i64 k.i) := by simp [World.cell?, hbox]
    have hblt := blk_lt hbox
    have hS2 := Lib.hid hs2.1
    have cI := fun q w' (hb : Below w2.heap.size w2 w') (hq : w'.heap[q]? = some (.cells #[.int .i64 k.c, .int .i64 k.i] 62 (0, 0))) (hq2 : w2.heap.size ≤ q) =>
      sl_InsertS p q m (m.take r) (m.drop r) k A c m.length r w' rfl hml (by simp; omega) (List.take_append_drop r m).symm ((hb.block p hlt2).trans h1) (h2.below hb) (insL_nodup hnd hmk) hq (fun ad e => by have := own_addr h2 ad e; omega)
    simp only [hri] at cI
    clear hs2 h1 h2 h3 hbox hS H hri
    go_wp2_with fail
    go_region_with (first | (go_at_call 63; (with_reducible refine (hP _ _ hs0.out ?_).mono ?_); (focus ((repeat (first | (with_reducible exact Below.refl _ _) | ((with_reducible refine Below.alloc ?_ ?hB _); (case hB => (first | omega | (simp; done) | (simp; omega)))) | ((with_reducible refine Below.setCell ?_ ?hB _); (case hB => (first | omega | (simp; done) | (simp; omega)))) | (with_reducible refine Below.drew ?_) | ((with_reducible refine below_ext_of ?_ ?hB); (case hB => (first | omega | (simp; done) | (simp; omega)))) | ((with_reducible refine Below.trans ?_ (Below.mono (by assumption) ?hB)); (case hB => (first | omega | (simp; done) | (simp; omega)))))); done)); rintro e w5 ⟨rfl, hb5⟩; obtain ⟨hc5, hf5⟩ := bcell hb5; have hz5 := hb5.size; (try simp only [World.size_alloc, World.size_drew] at hz5)) | (go_at_call 82; (with_reducible refine (cI _ _ ?_ ?_ ?_).mono ?_); (focus ((repeat (first | (with_reducible exact Below.refl _ _) | ((with_reducible refine Below.alloc ?_ ?hB _); (case hB => (first | omega | (simp; done) | (simp; omega)))) | ((with_reducible refine Below.setCell ?_ ?hB _); (case hB => (first | omega | (simp; done) | (simp; omega)))) | (with_reducible refine Below.drew ?_) | ((with_reducible refine below_ext_of ?_ ?hB); (case hB => (first | omega | (simp; done) | (simp; omega)))) | ((with_reducible refine Below.trans ?_ (Below.mono (by assumption) ?hB)); (case hB => (first | omega | (simp; done) | (simp; omega)))))); done)); (focus (first | exact heap_alloc_new _ _ | exact (hb5.block _ (by simp)).trans (heap_alloc_new _ _))); (focus ((first | omega | (simp; done) | (simp; omega)); done)); rintro e w6 ⟨A6, c6, n6, rfl, cp6, fp6, hS6⟩))
    all_goals
      have hS7 := Lib.hid (StkP.trans hs0.out (StkP.trans (StkP.of_below hS2.out (by (repeat (first | (with_reducible exact Below.refl _ _) | ((with_reducible refine Below.alloc ?_ ?hB _); (case hB => (first | omega | (simp; done) | (simp; omega)))) | ((with_reducible refine Below.setCell ?_ ?hB _); (case hB => (first | omega | (simp; done) | (simp; omega)))) | (with_reducible refine Below.drew ?_) | ((with_reducible refine below_ext_of ?_ ?hB); (case hB => (first | omega | (simp; done) | (simp; omega)))) | ((with_reducible refine Below.trans ?_ (Below.mono (by assumption) ?hB)); (case hB => (first | omega | (simp; done) | (simp; omega)))))))) hS6))
      clear hS6
      go_wp2
      go_ret
      rw [HT.out]
      exact ⟨rfl, hS7.out⟩
  · have cD : ∀ w, Stk w p l → Calls Try.prog 45 #[(.pointer (some ⟨p, 0, none⟩)), (.agg #[.int .i64 (k).c, .int .i64 (k).i])] w fun e w' => e = .returned (.bool false) ∧ StkP w p l w' := fun w h => by have := stk_Drop p l k w hl h; unfold DropSP at this; rwa [decide_eq_false hk, dropL_none hk] at this
    have HT := Lib.hid (show ∀ e w', ToP w p l k r e w' = (e = .returned (.int .i64 5) ∧ StkP w p l w') from fun e w' => by unfold ToP; rw [if_neg hk])
    clear hk h hP hri hrl
    go_enter Try.func59, Try.ntmps59
    go_wp2_with (first | (go_at_call 45; (with_reducible refine (cD _ (hS _ ?_)).mono ?_); (focus ((repeat (first | (with_reducible exact Below.refl _ _) | ((with_reducible refine Below.alloc ?_ ?hB _); (case hB => (first | omega | (simp; done) | (simp; omega)))) | ((with_reducible refine Below.setCell ?_ ?hB _); (case hB => (first | omega | (simp; done) | (simp; omega)))) | (with_reducible refine Below.drew ?_) | ((with_reducible refine below_ext_of ?_ ?hB); (case hB => (first | omega | (simp; done) | (simp; omega)))) | ((with_reducible refine Below.trans ?_ (Below.mono (by assumption) ?hB)); (case hB => (first | omega | (simp; done) | (simp; omega)))))); done)); rintro e w2 ⟨rfl, hs2⟩))
    have hs0 := Lib.hid (show StkP w p l w2 from (StkP.of_below H.out (by (repeat (first | (with_reducible exact Below.refl _ _) | ((with_reducible refine Below.alloc ?_ ?hB _); (case hB => (first | omega | (simp; done) | (simp; omega)))) | ((with_reducible refine Below.setCell ?_ ?hB _); (case hB => (first | omega | (simp; done) | (simp; omega)))) | (with_reducible refine Below.drew ?_) | ((with_reducible refine below_ext_of ?_ ?hB); (case hB => (first | omega | (simp; done) | (simp; omega)))) | ((with_reducible refine Below.trans ?_ (Below.mono (by assumption) ?hB)); (case hB => (first | omega | (simp; done) | (simp; omega)))))))).trans hs2)
    clear hs2
    go_ret
    rw [HT.out]
    exact ⟨rfl, hs0.out⟩
end Go.Proofs.Yteldbnelfeiifaa
