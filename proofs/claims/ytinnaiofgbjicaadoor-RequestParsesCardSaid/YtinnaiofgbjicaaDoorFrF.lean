/- The document's messages of bytes, walked. -/
import Derived.Test.YtinnaiofgbjicaaDoorFrD
import Derived.Test.YtinnaiofgbjicaaDoorFrE
namespace Go.Proofs.YtinnaiofgbjicaaDoor
open Go.RowKit Go.Proofs.YtinnaiofgbjicaaDoorW.PrintWords
set_option linter.unusedSimpArgs false
set_option linter.unusedVariables false
set_option maxRecDepth 1000000
theorem readP_err {b : List Int} {i : Int} (h : readP b = .inl i) : i = 2 ∨ i = 3 := by
  unfold readP at h
  split at h
  · injection h with h; omega
  · split at h
    · injection h with h; omega
    · split at h
      · injection h with h; omega
      · cases h
def SplP (w : World) (r : List M3 × Nat × Int) (e : Ending) (w' : World) : Prop := ∃ v, e = .returned (.tuple #[v, .int .i64 r.2.1, .int .i64 r.2.2]) ∧ OwnM w' w.heap.size v r.1 ∧ Below w.heap.size w w'
theorem SplP.mk {w w' : World} {r : List M3 × Nat × Int} {L : List M3} {n : Nat} {i : Int} {v : Value} (h : r = (L, n, i)) (ho : OwnM w' w.heap.size v L) (hb : Below w.heap.size w w') : SplP w r (.returned (.tuple #[v, .int .i64 n, .int .i64 i])) w' := by
  subst h; exact ⟨v, rfl, ho, hb⟩
def RdN (w : World) (i : Int) (e : Ending) (w' : World) : Prop := e = .returned (.tuple #[(.agg #[.int .i64 (0), .int .i64 (0), .slice (none) (0) (0)]), .int .i64 0, .int .i64 i]) ∧ Below w.heap.size w w'
def RdY (w : World) (Q : Nat → Prop) (m : M3) (n : Nat) (e : Ending) (w' : World) : Prop := ∃ A c, e = .returned (.tuple #[(.agg #[.int .i64 (m.op), .int .i64 (m.id), .slice (A) (m.b.length) (c)]), .int .i64 n, .int .i64 0]) ∧ BS w' A m.b c ∧ Below w.heap.size w w' ∧ (0 < m.b.length → ∀ ad, A = some ad → Q ad.block)
set_option maxHeartbeats 2000000 in
theorem ref_Split (A : Option Addr) (b : List Int) (c : Nat) (w : World) (hs : BS w A b c) (hn : b.length ≤ 1000000) : Calls Tryd.prog 57 #[.slice A b.length c] w (SplP w (splitP b)) := by
  have HS := Lib.hid hs
  have hle := hs.le
  clear hs
  go_enter Tryd.func57, Tryd.ntmps57
  go_wp2
  go_loopw [5, 6] (fun v a wr => ∃ (at_ : Nat) (L : List M3) (f : Nat), a = .int .i64 at_ ∧ at_ ≤ b.length ∧ SplitAt b L at_ f ∧ L.length ≤ at_ ∧ OwnM wr w.heap.size v L ∧ Below w.heap.size w wr) (fun _ a _ => b.length - (intOf a).toNat)
  case atStart => exact ⟨0, [], b.length + 1, rfl, by omega, SplitAt.start b, by simp, OwnM.nil _ _, Below.refl _ _⟩
  case round =>
    obtain ⟨at_, L, f, rfl, hat, hsp, hLl, hown, hbr⟩ := hrel
    have hzr := hbr.size
    have HSP := Lib.hid hsp
    have HBR := Lib.hid hbr
    clear hsp
    by_cases hlt : at_ < b.length
    · obtain ⟨ad, rfl, hlo, _⟩ := bs_cells HS.out (by omega)
      have hbd := HS.out.drop at_ hat
      have hl : (b.drop at_).length = b.length - at_ := List.length_drop
      have cR := fun w1 (hb : Below w.heap.size w w1) => ref_Read (some (ad.add at_)) (b.drop at_) (c - at_) w1 (hbd.below hb)
      rw [hl] at cR
      have hac : ¬ c = at_ := by omega
      cases hr : readP (b.drop at_) with
      | inl i =>
        have HU := Lib.hid (SplitAt.stop HS.out.byt HSP.out hlt hr)
        rw [hr] at cR
        have cR : ∀ w1, Below w.heap.size w w1 → Calls Tryd.prog 89 #[.slice (some (ad.add at_)) (b.length - at_) (c - at_)] w1 (RdN w1 i) := cR
        unfold RdN at cR
        have HO := Lib.hid hown
        have hr' := hr
        clear hr hbd hl hown
        have hi := readP_err hr'
        have hi0 : (i == 0) = false := by simp; omega
        have hi1 : (i != 0) = true := by simp; omega
        clear hr'
        go_wp2_with (first | (go_at_call 89; (with_reducible refine (cR _ ?_).mono ?_); (focus ((repeat (first | (with_reducible exact Below.refl _ _) | ((with_reducible refine Below.alloc ?_ ?hB _); (case hB => (first | omega | (simp; done) | (simp; omega)))) | ((with_reducible refine Below.setCell ?_ ?hB _); (case hB => (first | omega | (simp; done) | (simp; omega)))) | (with_reducible refine Below.drew ?_) | ((with_reducible refine below_ext_of ?_ ?hB); (case hB => (first | omega | (simp; done) | (simp; omega)))) | ((with_reducible refine Below.trans ?_ (Below.mono (by assumption) ?hB)); (case hB => (first | omega | (simp; done) | (simp; omega)))))); done)); rintro en w3 ⟨rfl, hb3⟩; obtain ⟨hc3, hf3⟩ := bcell hb3; have hz3 := hb3.size))
        go_ret3
        exact SplP.mk HU.out (HO.out.below (show Below wr.heap.size wr _ from by (repeat (first | (with_reducible exact Below.refl _ _) | ((with_reducible refine Below.alloc ?_ ?hB _); (case hB => (first | omega | (simp; done) | (simp; omega)))) | ((with_reducible refine Below.setCell ?_ ?hB _); (case hB => (first | omega | (simp; done) | (simp; omega)))) | (with_reducible refine Below.drew ?_) | ((with_reducible refine below_ext_of ?_ ?hB); (case hB => (first | omega | (simp; done) | (simp; omega)))) | ((with_reducible refine Below.trans ?_ (Below.mono (by assumption) ?hB)); (case hB => (first | omega | (simp; done) | (simp; omega)))))))) (HBR.out.trans (Below.mono (show Below wr.heap.size wr _ from by (repeat (first | (with_reducible exact Below.refl _ _) | ((with_reducible refine Below.alloc ?_ ?hB _); (case hB => (first | omega | (simp; done) | (simp; omega)))) | ((with_reducible refine Below.setCell ?_ ?hB _); (case hB => (first | omega | (simp; done) | (simp; omega)))) | (with_reducible refine Below.drew ?_) | ((with_reducible refine below_ext_of ?_ ?hB); (case hB => (first | omega | (simp; done) | (simp; omega)))) | ((with_reducible refine Below.trans ?_ (Below.mono (by assumption) ?hB)); (case hB => (first | omega | (simp; done) | (simp; omega))))))) hzr))
      | inr mn =>
        obtain ⟨m, n⟩ := mn
        have HU := Lib.hid (SplitAt.step HS.out.byt HSP.out hr)
        have hnn := readP_n (HS.out.byt.drop at_) hr
        rw [hr] at cR
        have cR : ∀ w1, Below w.heap.size w w1 → Calls Tryd.prog 89 #[.slice (some (ad.add at_)) (b.length - at_) (c - at_)] w1 (RdY w1 (fun g => ∃ ad', some (ad.add at_) = some ad' ∧ g = ad'.block) m n) := cR
        unfold RdY at cR
        obtain ⟨n1, n2, _⟩ := hnn
        obtain ⟨LH, hLH, hoL, hLs⟩ := hown
        have hLn : LH.length = L.length := by rw [← hLH]; simp
        have HLH := Lib.hid (And.intro hLH hLs)
        have hL6 : LH.length ≤ 1000000 := by omega
        clear hr hbd hLH hLs hLn
        go_wp2_with (first | (go_at_call 89; (with_reducible refine (cR _ ?_).mono ?_); (focus ((repeat (first | (with_reducible exact Below.refl _ _) | ((with_reducible refine Below.alloc ?_ ?hB _); (case hB => (first | omega | (simp; done) | (simp; omega)))) | ((with_reducible refine Below.setCell ?_ ?hB _); (case hB => (first | omega | (simp; done) | (simp; omega)))) | (with_reducible refine Below.drew ?_) | ((with_reducible refine below_ext_of ?_ ?hB); (case hB => (first | omega | (simp; done) | (simp; omega)))) | ((with_reducible refine Below.trans ?_ (Below.mono (by assumption) ?hB)); (case hB => (first | omega | (simp; done) | (simp; omega)))))); done)); rintro en w3 ⟨A3, c3, rfl, hs3, hb3, hq3⟩; have hz3 := hb3.size; replace hs3 := Lib.hid hs3; replace hq3 := Lib.hid hq3) | (at_builtin; refine print_append_cells (w0 := w) w.heap.size rfl _ _ 35 24 _ 3 40 rfl Tryd.underlying35 info_ms rfl (by decide) (by decide) _ _ _ [.int .i64 m.op, .int .i64 m.id, .slice A3 m.b.length c3] rfl ?_ rfl ?_ (pw_own_below hoL ?_) ?_ ?_ ?_ ?_; (focus (go_simp; done)); (focus (simp [Value.oneCell']; done)); (focus ((repeat (first | (with_reducible exact Below.refl _ _) | ((with_reducible refine Below.alloc ?_ ?hB _); (case hB => (first | omega | (simp; done) | (simp; omega)))) | ((with_reducible refine Below.setCell ?_ ?hB _); (case hB => (first | omega | (simp; done) | (simp; omega)))) | (with_reducible refine Below.drew ?_) | ((with_reducible refine below_ext_of ?_ ?hB); (case hB => (first | omega | (simp; done) | (simp; omega)))) | ((with_reducible refine Below.trans ?_ (Below.mono (by assumption) ?hB)); (case hB => (first | omega | (simp; done) | (simp; omega)))))); done)); (focus ((repeat (first | (with_reducible exact Below.refl _ _) | ((with_reducible refine Below.alloc ?_ ?hB _); (case hB => (first | omega | (simp; done) | (simp; omega)))) | ((with_reducible refine Below.setCell ?_ ?hB _); (case hB => (first | omega | (simp; done) | (simp; omega)))) | (with_reducible refine Below.drew ?_) | ((with_reducible refine below_ext_of ?_ ?hB); (case hB => (first | omega | (simp; done) | (simp; omega)))) | ((with_reducible refine Below.trans ?_ (Below.mono (by assumption) ?hB)); (case hB => (first | omega | (simp; done) | (simp; omega)))))); done)); (focus ((first | omega | (simp; done) | (simp; omega)); done)); (focus omega); intro v4 w4 hown4 hb4 hg4 hat4; have hz4 := hb4.size))
        have hbW : Below wr.heap.size wr (w3.alloc (.cells #[.int .i64 m.op, .int .i64 m.id, .slice A3 m.b.length c3] 24)) := by (repeat (first | (with_reducible exact Below.refl _ _) | ((with_reducible refine Below.alloc ?_ ?hB _); (case hB => (first | omega | (simp; done) | (simp; omega)))) | ((with_reducible refine Below.setCell ?_ ?hB _); (case hB => (first | omega | (simp; done) | (simp; omega)))) | (with_reducible refine Below.drew ?_) | ((with_reducible refine below_ext_of ?_ ?hB); (case hB => (first | omega | (simp; done) | (simp; omega)))) | ((with_reducible refine Below.trans ?_ (Below.mono (by assumption) ?hB)); (case hB => (first | omega | (simp; done) | (simp; omega))))))
        have hbW3 : Below w3.heap.size w3 (w3.alloc (.cells #[.int .i64 m.op, .int .i64 m.id, .slice A3 m.b.length c3] 24)) := by (repeat (first | (with_reducible exact Below.refl _ _) | ((with_reducible refine Below.alloc ?_ ?hB _); (case hB => (first | omega | (simp; done) | (simp; omega)))) | ((with_reducible refine Below.setCell ?_ ?hB _); (case hB => (first | omega | (simp; done) | (simp; omega)))) | (with_reducible refine Below.drew ?_) | ((with_reducible refine below_ext_of ?_ ?hB); (case hB => (first | omega | (simp; done) | (simp; omega)))) | ((with_reducible refine Below.trans ?_ (Below.mono (by assumption) ?hB)); (case hB => (first | omega | (simp; done) | (simp; omega))))))
        have hsn : OwnM w4 w.heap.size v4 (L ++ [m]) := OwnM.snoc ⟨m, A3, c3⟩ HLH.out.1 (fun h hh => ⟨(HLH.out.2 h hh).1.below hbW, (HLH.out.2 h hh).2⟩) ⟨hs3.out.below hbW3, fun h0 a hA e => by
          obtain ⟨ad', e1, e2⟩ := hq3.out h0 a hA
          injection e1 with e1
          have h5 := (World.ownsRow.lt hoL _ e.symm).1
          rw [e2, ← e1, add_blk] at h5
          omega⟩ hown4 hg4 hat4
        have HSN := Lib.hid hsn
        clear hsn hbW hbW3
        go_roundw
        case rel => exact ⟨at_ + n, L ++ [m], f - 1, by go_num, by omega, HU.out, by simp; omega, HSN.out, hb4⟩
        case measure => simp [intOf]; omega
    · have HU := Lib.hid (SplitAt.end_ HSP.out hlt)
      obtain rfl : at_ = b.length := by omega
      have HO := Lib.hid hown
      clear hown
      go_wp2
      go_ret3
      exact SplP.mk HU.out HO.out HBR.out
end Go.Proofs.YtinnaiofgbjicaaDoor
