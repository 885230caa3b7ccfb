/- All keys of a client, dropped off a stack. -/
import Derived.Test.YteldbnelfeiifaaStkZe
namespace Go.Proofs.Yteldbnelfeiifaa
open Go.RowKit Go.Proofs.YteldbnelfeiifaaW.PrintWords
set_option linter.unusedSimpArgs false
set_option linter.unusedVariables false
set_option maxRecDepth 1000000
attribute [local go_sem high] eqK eqKS
def AllP (w : World) (p : Nat) (l : List K2) (c : Int) (e : Ending) (w' : World) : Prop := ∃ A c', e = .returned (.slice A (goneA l c).length c') ∧ KR w' A (goneA l c) c' ∧ StkP w p (dropA l c) w'
set_option maxHeartbeats 1000000 in
theorem stk_DropAll (p : Nat) (l : List K2) (c : Int) (w : World) (hl : l.length ≤ 10000) (h : Stk w p l) : Calls Try.prog 69 #[(.pointer (some ⟨p, 0, none⟩)), .int .i64 c] w (AllP w p l c) := by
  have hlt := h.lt
  obtain ⟨A, cc, h1, h2, h3⟩ := h.open_
  have hc := cell_one h1
  have hnd : (dropA l c).Nodup := h.nodup.filter _
  have hpr : some p ≠ (Value.slice A 0 0).ownBlock := by
    cases A with
    | none => simp [Value.ownBlock]
    | some ad => intro e; have := (World.ownsRow.lt h2 ad.block rfl).1; injection e with e; subst e; omega
  have HOB := Lib.hid (show ∀ n1 c1, (Value.slice A n1 c1).ownBlock = (Value.slice A 0 0).ownBlock from fun _ _ => by cases A <;> rfl)
  have hb1 : Below w.heap.size w ((w.alloc (.cells #[.int .i64 c] 3)).alloc (.cells #[.slice none 0 0] 68)) := by (repeat (first | (with_reducible exact Below.refl _ _) | ((with_reducible refine Below.alloc ?_ ?hB _); (case hB => (first | omega | (simp; done) | (simp; omega)))) | ((with_reducible refine Below.setCell ?_ ?hB _); (case hB => (first | omega | (simp; done) | (simp; omega)))) | (with_reducible refine Below.drew ?_) | ((with_reducible refine below_ext_of ?_ ?hB); (case hB => (first | omega | (simp; done) | (simp; omega)))) | ((with_reducible refine Below.trans ?_ (Below.mono (by assumption) ?hB)); (case hB => (first | omega | (simp; done) | (simp; omega))))))
  have cF := sl_DeleteFunc p w.heap.size (w.heap.size + 1) c A l cc (.slice none 0 0) ((w.alloc (.cells #[.int .i64 c] 3)).alloc (.cells #[.slice none 0 0] 68)) hl (h2.below hb1) (fun ad e => own_addr h2 ad e)
    (blk_alloc (blk_new _ _) _) ⟨by have := blk_new (w.alloc (.cells #[.int .i64 c] 3)) (.cells #[.slice none 0 0] 68); rwa [World.size_alloc] at this, OwnK.nil _ _ _⟩ (by omega)
  have H1 := Lib.hid h1
  have H2 := Lib.hid h2
  have HB := Lib.hid hb1
  have HND := Lib.hid hnd
  have HP := Lib.hid hpr
  clear h h1 h2 h3 hb1 hnd hpr
  go_enter Try.func69, Try.ntmps69
  go_wp2_with (first | (go_at_call 84; (with_reducible refine cF.mono ?_); rintro e w2 ⟨A2, n2, c2, v, rfl, ho2, hob2, hda2, hup2⟩; have hz2 := hup2.size; (try simp only [World.size_alloc] at hz2); have bp := (hup2.block p (by omega) HP.out).trans ((HB.out.block p hlt).trans H1.out); have cp := cell_one bp; have fp := blk_frozen bp 0; obtain ⟨A4, c4, rfl, hk4⟩ := hda2.own.kr; clear hk4; have c5 := cell_one hda2.blk; replace ho2 := Lib.hid ho2; replace hob2 := Lib.hid hob2; replace hda2 := Lib.hid hda2; replace hup2 := Lib.hid hup2; replace bp := Lib.hid bp))
  go_ret
  have hg : w.grownBy w2 (Value.slice A l.length cc).ownBlock := ⟨hup2.out.os.trans HB.out.os, hup2.out.tape.trans HB.out.tape, hup2.out.output.trans HB.out.output, by omega, fun k hk hne => (hup2.out.block k (by omega) (by rw [← HOB.out l.length cc]; exact hne)).trans (HB.out.block k hk)⟩
  have hs := Stk.update H1.out H2.out hg ho2.out (.inl (hob2.out.trans (HOB.out _ _).symm)) HND.out
  have hne : some p ≠ (Value.slice A4 (goneA l c).length c4).ownBlock := fun e => by have := (World.ownsRow.lt hda2.out.own p e.symm).1; omega
  have hkr := own_setCell (p := ⟨p, 0, none⟩) hda2.out.own hne (.slice A2 n2 c2)
  obtain ⟨A5, c5', e5, hk5⟩ := OwnK.kr hkr
  injection e5 with e1 _ e3
  subst e1 e3
  exact ⟨_, _, rfl, hk5, hs⟩
end Go.Proofs.Yteldbnelfeiifaa
