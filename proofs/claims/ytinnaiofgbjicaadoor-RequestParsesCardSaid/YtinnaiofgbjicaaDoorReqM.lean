/- The document's request of a message, walked. -/
import Derived.Test.YtinnaiofgbjicaaDoorReqK
import Derived.Test.YtinnaiofgbjicaaDoorReqD
import Derived.Test.YtinnaiofgbjicaaDoorReqH
import Derived.Test.YtinnaiofgbjicaaDoorUnpA
import Derived.Deep.DeepCutAuto
namespace Go.Proofs.YtinnaiofgbjicaaDoor
open Go.RowKit Go.Proofs.YtinnaiofgbjicaaDoorW.PrintWords
set_option linter.unusedSimpArgs false
set_option linter.unusedVariables false
set_option maxRecDepth 1000000
def UnV (w : World) (i : Int) (l : List V8) (e : Ending) (w' : World) : Prop := ∃ A c, e = .returned (.tuple #[.slice A l.length c, .int .i64 i]) ∧ VRow w' A l ∧ Below w.heap.size w w'
theorem rd_not (op id : Int) (A : Option Addr) (n c : Nat) (w : World) (h : op < 0 ∨ (0 ≤ op ∧ 18 < op)) : Calls Tryd.prog 16 #[(.agg #[.int .i64 (op), .int .i64 (id), .slice (A) (n) (c)])] w (DecE w 12) := by
  rcases h with h1 | ⟨h1, h2⟩
  all_goals
    go_enter Tryd.func16, Tryd.ntmps16
    go_wp2
    refine bodyPost_ret (v := .tuple #[(.agg #[.int .i64 0, .int .i64 0, .int .i64 0, .int .i64 0, .int .i64 0, .int .i64 0, .int .i64 0, .int .i64 0, .string { data := #[] }, .slice none 0 0]), .int .i64 12]) (by simp [results, Tryd.results16, go_sem, ↓IntWalk.iteOmega, *]) rfl ?_
    exact ⟨rfl, by (repeat (first | (with_reducible exact Below.refl _ _) | ((with_reducible refine Below.alloc ?_ ?hB _); (case hB => (first | omega | (simp; done) | (simp; omega)))) | ((with_reducible refine Below.setCell ?_ ?hB _); (case hB => (first | omega | (simp; done) | (simp; omega)))) | (with_reducible refine Below.drew ?_) | ((with_reducible refine below_ext_of ?_ ?hB); (case hB => (first | omega | (simp; done) | (simp; omega)))) | ((with_reducible refine Below.trans ?_ (Below.mono (by assumption) ?hB)); (case hB => (first | omega | (simp; done) | (simp; omega))))))⟩
set_option maxHeartbeats 4000000 in
theorem rd_err (k : Nat) (hk : k < 19) (id : Int) (i : Int) (l : List V8) (A : Option Addr) (n c : Nat) (w : World) (cU : ∀ w1, Below w.heap.size w w1 → Calls Tryd.prog 46 #[.string (formQ k), .slice A n c] w1 (UnV w1 i l)) (h0 : ¬ i = 0) : Calls Tryd.prog 16 #[(.agg #[.int .i64 ((k : Int)), .int .i64 (id), .slice (A) (n) (c)])] w (DecE w i) := by
  have hi0 : (i == 0) = false := by simp [h0]
  have hi1 : (i != 0) = true := by simp [h0]
  have cFs := fun w => forms_at k hk w; unfold CellQ at cFs; unfold UnV at cU; have hk0 : (0 : Int) ≤ (k : Int) := (by omega); have hk1 : (k : Int) ≤ 18 := (by omega); have hk2 : (k : Int) < 19 := (by omega); generalize formQ k = f at *
  go_enter Tryd.func16, Tryd.ntmps16
  (go_upto_region 3 with (fail); go_cut [4, 5] (fun s4 s5 wx => ∃ A2 c2, s4 = .slice A2 l.length c2 ∧ s5 = .int .i64 i ∧ VRow wx A2 l ∧ Below ((w.alloc (.cells #[.int .i64 (k : Int), .int .i64 id, .slice A n c] 24)).alloc (.cells #[.int .i64 0, .int .i64 0, .int .i64 0, .int .i64 0, .int .i64 0, .int .i64 0, .int .i64 0, .int .i64 0, .string { data := #[] }, .slice none 0 0] 28)).heap.size ((w.alloc (.cells #[.int .i64 (k : Int), .int .i64 id, .slice A n c] 24)).alloc (.cells #[.int .i64 0, .int .i64 0, .int .i64 0, .int .i64 0, .int .i64 0, .int .i64 0, .int .i64 0, .int .i64 0, .string { data := #[] }, .slice none 0 0] 28)) wx); (case first => (go_region_with (first | (go_at_call 21; (with_reducible refine (cFs _).mono ?_); rintro en w1 ⟨g1, rfl, hg1, hl1, hc1, hb1⟩; obtain ⟨hcb1, hfb1⟩ := bcell hb1; have hz1 := hb1.size; (try simp only [World.size_alloc, World.size_setCell, World.size_drew] at hz1)) | (go_at_call 46; (with_reducible refine (cU _ ?_).mono ?_); (focus ((repeat (first | (with_reducible exact Below.refl _ _) | ((with_reducible refine Below.alloc ?_ ?hB _); (case hB => (first | omega | (simp; done) | (simp; omega)))) | ((with_reducible refine Below.setCell ?_ ?hB _); (case hB => (first | omega | (simp; done) | (simp; omega)))) | (with_reducible refine Below.drew ?_) | ((with_reducible refine below_ext_of ?_ ?hB); (case hB => (first | omega | (simp; done) | (simp; omega)))) | ((with_reducible refine Below.trans ?_ (Below.mono (by assumption) ?hB)); (case hB => (first | omega | (simp; done) | (simp; omega)))))); done)); rintro en w2 ⟨A2, c2, rfl, hr2, hb2⟩; have hz2 := hb2.size; replace hr2 := Lib.hid hr2; (try simp only [World.size_alloc, World.size_setCell, World.size_drew] at hz2)))); (all_goals (go_wp2_with fail; go_meet; exact ⟨A2, c2, rfl, rfl, hr2.out.below (by (repeat (first | (with_reducible exact Below.refl _ _) | ((with_reducible refine Below.alloc ?_ ?hB _); (case hB => (first | omega | (simp; done) | (simp; omega)))) | ((with_reducible refine Below.setCell ?_ ?hB _); (case hB => (first | omega | (simp; done) | (simp; omega)))) | (with_reducible refine Below.drew ?_) | ((with_reducible refine below_ext_of ?_ ?hB); (case hB => (first | omega | (simp; done) | (simp; omega)))) | ((with_reducible refine Below.trans ?_ (Below.mono (by assumption) ?hB)); (case hB => (first | omega | (simp; done) | (simp; omega))))))), by (repeat (first | (with_reducible exact Below.refl _ _) | ((with_reducible refine Below.alloc ?_ ?hB _); (case hB => (first | omega | (simp; done) | (simp; omega)))) | ((with_reducible refine Below.setCell ?_ ?hB _); (case hB => (first | omega | (simp; done) | (simp; omega)))) | (with_reducible refine Below.drew ?_) | ((with_reducible refine below_ext_of ?_ ?hB); (case hB => (first | omega | (simp; done) | (simp; omega)))) | ((with_reducible refine Below.trans ?_ (Below.mono (by assumption) ?hB)); (case hB => (first | omega | (simp; done) | (simp; omega))))))⟩))))
  case rest =>
    obtain ⟨A2, c2, rfl, rfl, hr, hbx⟩ := hcut
    have HBX := Lib.hid hbx
    obtain ⟨hcx, hfx⟩ := bcell hbx
    have hzx := hbx.size
    (try simp only [World.size_alloc, World.size_setCell, World.size_drew] at hzx)
    clear hbx
    go_wp2
    (refine bodyPost_ret (v := .tuple #[(.agg #[.int .i64 0, .int .i64 0, .int .i64 0, .int .i64 0, .int .i64 0, .int .i64 0, .int .i64 0, .int .i64 0, .string { data := #[] }, .slice none 0 0]), .int .i64 i]) (by simp [results, Tryd.results16, go_sem, ↓IntWalk.iteOmega, *]) rfl ?_; have hbx := HBX.out; exact ⟨rfl, by (repeat (first | (with_reducible exact Below.refl _ _) | ((with_reducible refine Below.alloc ?_ ?hB _); (case hB => (first | omega | (simp; done) | (simp; omega)))) | ((with_reducible refine Below.setCell ?_ ?hB _); (case hB => (first | omega | (simp; done) | (simp; omega)))) | (with_reducible refine Below.drew ?_) | ((with_reducible refine below_ext_of ?_ ?hB); (case hB => (first | omega | (simp; done) | (simp; omega)))) | ((with_reducible refine Below.trans ?_ (Below.mono (by assumption) ?hB)); (case hB => (first | omega | (simp; done) | (simp; omega))))))⟩)
end Go.Proofs.YtinnaiofgbjicaaDoor
namespace Go.Proofs.YtinnaiofgbjicaaDoor
open Go.RowKit Go.Proofs.YtinnaiofgbjicaaDoorW.PrintWords
set_option linter.unusedSimpArgs false
set_option linter.unusedVariables false
set_option maxRecDepth 1000000
/-- A request, plainly. -/
structure Q9 where
  op : Int
  id : Int
  a : Int
  b : Int
  x0 : Int
  y0 : Int
  x1 : Int
  y1 : Int
  s : ByteArray
  d : List Int
def stepQ (q : Q9) (j : Nat) (x : V8) : Q9 :=
  if x.kind = 0 then (if j = 0 then { q with a := x.n } else { q with b := x.n })
  else if x.kind = 1 then { q with s := x.s }
  else if x.kind = 2 then { q with x0 := x.x0, y0 := x.y0, x1 := x.x1, y1 := x.y1 }
  else { q with d := x.b }
def foldQ (q : Q9) (l : List V8) : Nat → Q9
  | 0 => q
  | j + 1 => stepQ (foldQ q l j) j (at8 l j)
def startQ (op id : Int) : Q9 := ⟨op, id, 0, 0, 0, 0, 0, 0, { data := #[] }, []⟩
def DecR (w : World) (v : Bool) (q : Q9) (e : Ending) (w' : World) : Prop := DecF w v q.op q.id q.a q.b q.x0 q.y0 q.x1 q.y1 q.s q.d e w'
theorem reads_lt {w : World} {A : Option Addr} {n : Nat} {xs : List Int} (h : ReadsInt w .u8 A n xs) : 0 < n → ∀ ad, A = some ad → ad.block < w.heap.size := by
  intro hn ad hA
  obtain ⟨ad', e', hc⟩ := h.2.2 hn
  rw [hA] at e'; injection e' with e'; subst e'
  exact lt_of_cell (a := ad.add 0) (hc 0 hn)
set_option maxHeartbeats 8000000 in
theorem rd_ok (k : Nat) (hk : k < 19) (id : Int) (i : Int) (l : List V8) (A : Option Addr) (n c : Nat) (w : World) (cU : ∀ w1, Below w.heap.size w w1 → Calls Tryd.prog 46 #[.string (formQ k), .slice A n c] w1 (UnV w1 i l)) (hi : i = 0) (hll : l.length ≤ 1000) (v : Bool) (cM : ∀ q, foldQ (startQ k id) l l.length = q → ∀ DA dc w, Calls Tryd.prog 47 #[(.agg #[.int .i64 q.op, .int .i64 q.id, .int .i64 q.a, .int .i64 q.b, .int .i64 q.x0, .int .i64 q.y0, .int .i64 q.x1, .int .i64 q.y1, .string q.s, .slice DA q.d.length dc])] w fun e w' => e = .returned (.bool v) ∧ Below w.heap.size w w') : Calls Tryd.prog 16 #[(.agg #[.int .i64 ((k : Int)), .int .i64 (id), .slice (A) (n) (c)])] w (DecR w v (foldQ (startQ k id) l l.length)) := by
  have hi0 : (i == 0) = true := by simp [hi]
  have hi1 : (i != 0) = false := by simp [hi]
  replace hi := Lib.hid hi
  have cFs := fun w => forms_at k hk w; unfold CellQ at cFs; unfold UnV at cU; have hk0 : (0 : Int) ≤ (k : Int) := (by omega); have hk1 : (k : Int) ≤ 18 := (by omega); have hk2 : (k : Int) < 19 := (by omega); generalize formQ k = f at *
  go_enter Tryd.func16, Tryd.ntmps16
  (go_upto_region 3 with (fail); go_cut [4, 5] (fun s4 s5 wx => ∃ A2 c2, s4 = .slice A2 l.length c2 ∧ s5 = .int .i64 i ∧ VRow wx A2 l ∧ Below ((w.alloc (.cells #[.int .i64 (k : Int), .int .i64 id, .slice A n c] 24)).alloc (.cells #[.int .i64 0, .int .i64 0, .int .i64 0, .int .i64 0, .int .i64 0, .int .i64 0, .int .i64 0, .int .i64 0, .string { data := #[] }, .slice none 0 0] 28)).heap.size ((w.alloc (.cells #[.int .i64 (k : Int), .int .i64 id, .slice A n c] 24)).alloc (.cells #[.int .i64 0, .int .i64 0, .int .i64 0, .int .i64 0, .int .i64 0, .int .i64 0, .int .i64 0, .int .i64 0, .string { data := #[] }, .slice none 0 0] 28)) wx); (case first => (go_region_with (first | (go_at_call 21; (with_reducible refine (cFs _).mono ?_); rintro en w1 ⟨g1, rfl, hg1, hl1, hc1, hb1⟩; obtain ⟨hcb1, hfb1⟩ := bcell hb1; have hz1 := hb1.size; (try simp only [World.size_alloc, World.size_setCell, World.size_drew] at hz1)) | (go_at_call 46; (with_reducible refine (cU _ ?_).mono ?_); (focus ((repeat (first | (with_reducible exact Below.refl _ _) | ((with_reducible refine Below.alloc ?_ ?hB _); (case hB => (first | omega | (simp; done) | (simp; omega)))) | ((with_reducible refine Below.setCell ?_ ?hB _); (case hB => (first | omega | (simp; done) | (simp; omega)))) | (with_reducible refine Below.drew ?_) | ((with_reducible refine below_ext_of ?_ ?hB); (case hB => (first | omega | (simp; done) | (simp; omega)))) | ((with_reducible refine Below.trans ?_ (Below.mono (by assumption) ?hB)); (case hB => (first | omega | (simp; done) | (simp; omega)))))); done)); rintro en w2 ⟨A2, c2, rfl, hr2, hb2⟩; have hz2 := hb2.size; replace hr2 := Lib.hid hr2; (try simp only [World.size_alloc, World.size_setCell, World.size_drew] at hz2)))); (all_goals (go_wp2_with fail; go_meet; exact ⟨A2, c2, rfl, rfl, hr2.out.below (by (repeat (first | (with_reducible exact Below.refl _ _) | ((with_reducible refine Below.alloc ?_ ?hB _); (case hB => (first | omega | (simp; done) | (simp; omega)))) | ((with_reducible refine Below.setCell ?_ ?hB _); (case hB => (first | omega | (simp; done) | (simp; omega)))) | (with_reducible refine Below.drew ?_) | ((with_reducible refine below_ext_of ?_ ?hB); (case hB => (first | omega | (simp; done) | (simp; omega)))) | ((with_reducible refine Below.trans ?_ (Below.mono (by assumption) ?hB)); (case hB => (first | omega | (simp; done) | (simp; omega))))))), by (repeat (first | (with_reducible exact Below.refl _ _) | ((with_reducible refine Below.alloc ?_ ?hB _); (case hB => (first | omega | (simp; done) | (simp; omega)))) | ((with_reducible refine Below.setCell ?_ ?hB _); (case hB => (first | omega | (simp; done) | (simp; omega)))) | (with_reducible refine Below.drew ?_) | ((with_reducible refine below_ext_of ?_ ?hB); (case hB => (first | omega | (simp; done) | (simp; omega)))) | ((with_reducible refine Below.trans ?_ (Below.mono (by assumption) ?hB)); (case hB => (first | omega | (simp; done) | (simp; omega))))))⟩))))
  case rest =>
    rename World => wx
    obtain ⟨A2, c2, rfl, rfl, hr, hbx⟩ := hcut
    have HBX := Lib.hid hbx
    obtain ⟨hcx, hfx⟩ := bcell hbx
    have hzx := hbx.size
    (try simp only [World.size_alloc, World.size_setCell, World.size_drew] at hzx)
    replace hr := Lib.hid hr
    clear hbx
    go_wp2
    go_loopw [7] (fun i wr => ∃ j DA dc, j ≤ l.length ∧ i = .int .i64 (j : Nat) ∧ wr.heap[wx.heap.size]? = some (.cells #[.int .i64 ((foldQ (startQ k id) l j)).op, .int .i64 ((foldQ (startQ k id) l j)).id, .int .i64 ((foldQ (startQ k id) l j)).a, .int .i64 ((foldQ (startQ k id) l j)).b, .int .i64 ((foldQ (startQ k id) l j)).x0, .int .i64 ((foldQ (startQ k id) l j)).y0, .int .i64 ((foldQ (startQ k id) l j)).x1, .int .i64 ((foldQ (startQ k id) l j)).y1, .string ((foldQ (startQ k id) l j)).s, .slice DA ((foldQ (startQ k id) l j)).d.length dc] 28 (0, 0)) ∧ (wx.alloc (.cells #[.int .i64 (k : Int), .int .i64 id, .int .i64 0, .int .i64 0, .int .i64 0, .int .i64 0, .int .i64 0, .int .i64 0, .string { data := #[] }, .slice none 0 0] 28)).grownBy wr (some wx.heap.size) ∧ ((foldQ (startQ k id) l j).d.length ≤ dc ∧ ReadsInt wx .u8 DA (foldQ (startQ k id) l j).d.length (foldQ (startQ k id) l j).d)) (fun i _ => l.length - (intOf i).toNat)
    case atStart => exact ⟨0, none, 0, by omega, rfl, heap_alloc_new _ _, World.grownBy.refl _ _, Nat.le_refl _, reads_nil _ _⟩
    case round =>
      obtain ⟨j, DA, dc, hj, rfl, hB, hg, hD⟩ := hrel
      have HG := Lib.hid hg
      have hzg := hg.size
      (try simp only [World.size_alloc, World.size_setCell, World.size_drew] at hzg)
      have HD := Lib.hid hD
      have HB := Lib.hid hB
      clear hg hD
      by_cases hlt : j < l.length
      · (obtain ⟨ad, Ab, m, rfl, f0, f1, f2, f3, f4, f5, f6, f7, hm, hrd⟩ := hr.out j hlt; have hadl := lt_of_cell f0; have hne : (ad.add (j * 8)).block ≠ wx.heap.size := (by omega); have gg := fun {a : Addr} {v : Value} (hc : wx.cell? a = some v) (hn : a.block ≠ wx.heap.size) => HG.out.cell (pw_cell_below ((Below.refl _ _).alloc (Nat.le_refl _) (.cells #[.int .i64 (k : Int), .int .i64 id, .int .i64 0, .int .i64 0, .int .i64 0, .int .i64 0, .int .i64 0, .int .i64 0, .string { data := #[] }, .slice none 0 0] 28)) hc) (fun e => hn (by injection e)); have c0 := gg f0 hne; have c1 := gg f1 hne; have c2 := gg f2 hne; have c3 := gg f3 hne; have c4 := gg f4 hne; have c5 := gg f5 hne; have c6 := gg f6 hne; have c7 := gg f7 hne; have HRD := Lib.hid (And.intro hm hrd); clear gg f0 f1 f2 f3 f4 f5 f6 f7 hm hrd)
        have z2 := blk_frozen hB 2; have z3 := blk_frozen hB 3; have z4 := blk_frozen hB 4; have z5 := blk_frozen hB 5; have z6 := blk_frozen hB 6; have z7 := blk_frozen hB 7; have z8 := blk_frozen hB 8; have z9 := blk_frozen hB 9
        have e2 := (blk_cell hB 2).trans rfl; have e3 := (blk_cell hB 3).trans rfl; have e4 := (blk_cell hB 4).trans rfl; have e5 := (blk_cell hB 5).trans rfl; have e6 := (blk_cell hB 6).trans rfl; have e7 := (blk_cell hB 7).trans rfl; have e8 := (blk_cell hB 8).trans rfl; have e9 := (blk_cell hB 9).trans rfl
        have hst : foldQ (startQ k id) l (j + 1) = stepQ (foldQ (startQ k id) l j) j (at8 l j) := rfl
        unfold stepQ at hst
        generalize foldQ (startQ k id) l j = q at *
        generalize at8 l j = x at *
        by_cases k0 : x.kind = 0
        · rw [if_pos k0] at hst
          have b0 : (x.kind == 0) = true := by simp [k0]
          by_cases j0 : j = 0
          · rw [if_pos j0] at hst
            have b1 : ((j : Int) == 0) = true := by simp [j0]
            have HST := Lib.hid hst
            replace k0 := Lib.hid k0
            replace j0 := Lib.hid j0
            clear hst
            (go_wp2; go_roundw; (case rel => exact ⟨j + 1, DA, dc, by omega, by go_num, by rw [HST.out]; exact blk_set HB.out 2 _, HG.out.trans grown_set, by rw [HST.out]; exact HD.out⟩); (case measure => (simp [intOf]; omega)))
          · rw [if_neg j0] at hst
            have b1 : ((j : Int) == 0) = false := by simp [j0]
            have HST := Lib.hid hst
            replace k0 := Lib.hid k0
            replace j0 := Lib.hid j0
            clear hst
            (go_wp2; go_roundw; (case rel => exact ⟨j + 1, DA, dc, by omega, by go_num, by rw [HST.out]; exact blk_set HB.out 3 _, HG.out.trans grown_set, by rw [HST.out]; exact HD.out⟩); (case measure => (simp [intOf]; omega)))
        · rw [if_neg k0] at hst
          have b0 : (x.kind == 0) = false := by simp [k0]
          by_cases k1 : x.kind = 1
          · rw [if_pos k1] at hst
            have b1 : (x.kind == 1) = true := by simp [k1]
            have HST := Lib.hid hst
            replace k0 := Lib.hid k0
            replace k1 := Lib.hid k1
            clear hst
            (go_wp2; go_roundw; (case rel => exact ⟨j + 1, DA, dc, by omega, by go_num, by rw [HST.out]; exact blk_set HB.out 8 _, HG.out.trans grown_set, by rw [HST.out]; exact HD.out⟩); (case measure => (simp [intOf]; omega)))
          · rw [if_neg k1] at hst
            have b1 : (x.kind == 1) = false := by simp [k1]
            by_cases k2 : x.kind = 2
            · rw [if_pos k2] at hst
              have b2 : (x.kind == 2) = true := by simp [k2]
              have HST := Lib.hid hst
              replace k0 := Lib.hid k0
              replace k1 := Lib.hid k1
              replace k2 := Lib.hid k2
              clear hst
              (go_wp2; go_roundw; (case rel => exact ⟨j + 1, DA, dc, by omega, by go_num, by rw [HST.out]; exact blk_set (blk_set (blk_set (blk_set HB.out 4 _) 5 _) 6 _) 7 _, (((HG.out.trans grown_set).trans grown_set).trans grown_set).trans grown_set, by rw [HST.out]; exact HD.out⟩); (case measure => (simp [intOf]; omega)))
            · rw [if_neg k2] at hst
              have b2 : (x.kind == 2) = false := by simp [k2]
              have HST := Lib.hid hst
              replace k0 := Lib.hid k0
              replace k1 := Lib.hid k1
              replace k2 := Lib.hid k2
              clear hst
              (go_wp2; go_roundw; (case rel => exact ⟨j + 1, Ab, m, by omega, by go_num, by rw [HST.out]; exact blk_set HB.out 9 _, HG.out.trans grown_set, by rw [HST.out]; exact HRD.out⟩); (case measure => (simp [intOf]; omega)))
      · have hjl : j = l.length := (by omega)
        subst hjl
        replace cM := cM _ rfl
        generalize foldQ (startQ k id) l l.length = q at *
        rename World => wr
        have hapx := reads_lt HD.out.2
        have HAP := Lib.hid (show 0 < q.d.length → ∀ ad, DA = some ad → ad.block ≠ wx.heap.size from fun hn ad hA => by have := hapx hn ad hA; omega)
        have HD2 := Lib.hid (reads_grown (HD.out.2.below ((Below.refl wx.heap.size wx).alloc (Nat.le_refl _) (.cells #[.int .i64 (k : Int), .int .i64 id, .int .i64 0, .int .i64 0, .int .i64 0, .int .i64 0, .int .i64 0, .int .i64 0, .string { data := #[] }, .slice none 0 0] 28))) HG.out HAP.out)
        have HBW := Lib.hid (show Below w.heap.size w wr from (by refine Below.grown ?_ HG.out ?_ ?_; (focus (have hbx := HBX.out; (repeat (first | (with_reducible exact Below.refl _ _) | ((with_reducible refine Below.alloc ?_ ?hB _); (case hB => (first | omega | (simp; done) | (simp; omega)))) | ((with_reducible refine Below.setCell ?_ ?hB _); (case hB => (first | omega | (simp; done) | (simp; omega)))) | (with_reducible refine Below.drew ?_) | ((with_reducible refine below_ext_of ?_ ?hB); (case hB => (first | omega | (simp; done) | (simp; omega)))) | ((with_reducible refine Below.trans ?_ (Below.mono (by assumption) ?hB)); (case hB => (first | omega | (simp; done) | (simp; omega)))))); done)); (focus ((first | omega | (simp; done) | (simp; omega)); done)); (intro kk e; injection e with e; omega)))
        clear hapx
        have BZ := Lib.hid (blk_grown (blk_alloc (blk_belowB (show ((w.alloc (.cells #[.int .i64 (k : Int), .int .i64 id, .slice A n c] 24)).alloc (.cells #[.int .i64 0, .int .i64 0, .int .i64 0, .int .i64 0, .int .i64 0, .int .i64 0, .int .i64 0, .int .i64 0, .string { data := #[] }, .slice none 0 0] 28)).heap[w.heap.size + 1]? = some (.cells #[.int .i64 0, .int .i64 0, .int .i64 0, .int .i64 0, .int .i64 0, .int .i64 0, .int .i64 0, .int .i64 0, .string { data := #[] }, .slice none 0 0] 28 (0, 0)) from by have := blk_new (w.alloc (.cells #[.int .i64 (k : Int), .int .i64 id, .slice A n c] 24)) (.cells #[.int .i64 0, .int .i64 0, .int .i64 0, .int .i64 0, .int .i64 0, .int .i64 0, .int .i64 0, .int .i64 0, .string { data := #[] }, .slice none 0 0] 28); simpa only [World.size_alloc] using this) HBX.out (by (first | omega | (simp; done) | (simp; omega)))) (.cells #[.int .i64 (k : Int), .int .i64 id, .int .i64 0, .int .i64 0, .int .i64 0, .int .i64 0, .int .i64 0, .int .i64 0, .string { data := #[] }, .slice none 0 0] 28)) HG.out (by intro e; injection e with e; omega))
        have nz0 := (blk_cell BZ.out 0).trans rfl; have nf0 := blk_frozen BZ.out 0; have nz1 := (blk_cell BZ.out 1).trans rfl; have nf1 := blk_frozen BZ.out 1; have nz2 := (blk_cell BZ.out 2).trans rfl; have nf2 := blk_frozen BZ.out 2; have nz3 := (blk_cell BZ.out 3).trans rfl; have nf3 := blk_frozen BZ.out 3; have nz4 := (blk_cell BZ.out 4).trans rfl; have nf4 := blk_frozen BZ.out 4; have nz5 := (blk_cell BZ.out 5).trans rfl; have nf5 := blk_frozen BZ.out 5; have nz6 := (blk_cell BZ.out 6).trans rfl; have nf6 := blk_frozen BZ.out 6; have nz7 := (blk_cell BZ.out 7).trans rfl; have nf7 := blk_frozen BZ.out 7; have nz8 := (blk_cell BZ.out 8).trans rfl; have nf8 := blk_frozen BZ.out 8; have nz9 := (blk_cell BZ.out 9).trans rfl; have nf9 := blk_frozen BZ.out 9
        have m0 := (blk_cell HB.out 0).trans rfl; have m1 := (blk_cell HB.out 1).trans rfl; have m2 := (blk_cell HB.out 2).trans rfl; have m3 := (blk_cell HB.out 3).trans rfl; have m4 := (blk_cell HB.out 4).trans rfl; have m5 := (blk_cell HB.out 5).trans rfl; have m6 := (blk_cell HB.out 6).trans rfl; have m7 := (blk_cell HB.out 7).trans rfl; have m8 := (blk_cell HB.out 8).trans rfl; have m9 := (blk_cell HB.out 9).trans rfl
        have HAPZ := Lib.hid (req_apart HD2.out BZ.out)
        have HDC := Lib.hid HD.out.1
        cases v
        · go_wp2_with ((go_at_call 47; (with_reducible refine (cM _ _ _).mono ?_); rintro e w1 ⟨rfl, hb1⟩; obtain ⟨hc1, hf1⟩ := bcell hb1; have hz1 := hb1.size; (try simp only [World.size_alloc, World.size_setCell, World.size_drew] at hz1)))
          refine bodyPost_ret (v := .tuple #[(.agg #[.int .i64 0, .int .i64 0, .int .i64 0, .int .i64 0, .int .i64 0, .int .i64 0, .int .i64 0, .int .i64 0, .string { data := #[] }, .slice none 0 0]), .int .i64 4]) (by simp [results, Tryd.results16, go_sem, ↓IntWalk.iteOmega, *]) rfl ?_
          have hbw3 := HBW.out
          exact ⟨rfl, by (repeat (first | (with_reducible exact Below.refl _ _) | ((with_reducible refine Below.alloc ?_ ?hB _); (case hB => (first | omega | (simp; done) | (simp; omega)))) | ((with_reducible refine Below.setCell ?_ ?hB _); (case hB => (first | omega | (simp; done) | (simp; omega)))) | (with_reducible refine Below.drew ?_) | ((with_reducible refine below_ext_of ?_ ?hB); (case hB => (first | omega | (simp; done) | (simp; omega)))) | ((with_reducible refine Below.trans ?_ (Below.mono (by assumption) ?hB)); (case hB => (first | omega | (simp; done) | (simp; omega))))))⟩
        · go_wp2_with ((go_at_call 47; (with_reducible refine (cM _ _ _).mono ?_); rintro e w1 ⟨rfl, hb1⟩; obtain ⟨hc1, hf1⟩ := bcell hb1; have hz1 := hb1.size; (try simp only [World.size_alloc, World.size_setCell, World.size_drew] at hz1)); have HW := Lib.hid (And.intro hb1 (reads_b HD2.out hb1)))
          refine bodyPost_ret (v := .tuple #[(.agg #[.int .i64 q.op, .int .i64 q.id, .int .i64 q.a, .int .i64 q.b, .int .i64 q.x0, .int .i64 q.y0, .int .i64 q.x1, .int .i64 q.y1, .string q.s, .slice DA q.d.length dc]), .int .i64 0]) (by simp [results, Tryd.results16, go_sem, ↓IntWalk.iteOmega, *]) rfl ?_
          have hbw3 := HBW.out
          have hb4 := HW.out.1
          exact ⟨DA, dc, rfl, ⟨HDC.out, (by repeat (first | (with_reducible exact HW.out.2) | (with_reducible refine reads_set ?_ HAPZ.out _)))⟩, (by (repeat (first | (with_reducible exact Below.refl _ _) | ((with_reducible refine Below.alloc ?_ ?hB _); (case hB => (first | omega | (simp; done) | (simp; omega)))) | ((with_reducible refine Below.setCell ?_ ?hB _); (case hB => (first | omega | (simp; done) | (simp; omega)))) | (with_reducible refine Below.drew ?_) | ((with_reducible refine below_ext_of ?_ ?hB); (case hB => (first | omega | (simp; done) | (simp; omega)))) | ((with_reducible refine Below.trans ?_ (Below.mono (by assumption) ?hB)); (case hB => (first | omega | (simp; done) | (simp; omega)))))))⟩
end Go.Proofs.YtinnaiofgbjicaaDoor
