/- A message of bytes, in plain lists; the numbers of bytes, walked. -/
import Derived.Test.YtinnaiofgbjicaaDoorEvB
import Derived.Test.YtinnaiofgbjicaaDoorUnpD
namespace Go.Proofs.YtinnaiofgbjicaaDoor
open Go.RowKit Go.Proofs.YtinnaiofgbjicaaDoorW.PrintWords
set_option linter.unusedSimpArgs false
set_option linter.unusedVariables false
set_option maxRecDepth 1000000
theorem reads_apart {w : World} {A : Option Addr} {n g : Nat} {xs : List Int} {p q : Int} {B : Option Addr} {m c : Nat} {t : TypeId} {fr : Nat × Nat} (h : ReadsInt w .u8 A n xs) (hB : w.heap[g]? = some (.cells #[.int .i64 p, .int .i64 q, .slice B m c] t fr)) : 0 < n → ∀ ad, A = some ad → ad.block ≠ g := by
  intro hn ad hA e
  obtain ⟨ad', e', hc⟩ := h.2.2 hn
  rw [hA] at e'; injection e' with e'; subst e'
  have h0 := hc 0 hn
  have hz : ad.add 0 = ad := by simp [Addr.add]
  rw [hz] at h0
  subst e
  unfold World.cell? at h0
  rw [hB] at h0
  rcases ad with ⟨bl, off, sp⟩
  match off, h0 with
  | 0, h0 => simp at h0
  | 1, h0 => simp at h0
  | 2, h0 => simp at h0
  | k + 3, h0 => simp at h0
theorem BS.set {w : World} {A : Option Addr} {b : List Int} {c g i : Nat} (h : BS w A b c) (hne : 0 < b.length → ∀ ad, A = some ad → ad.block ≠ g) (v : Value) : BS (w.setCell ⟨g, i, none⟩ v) A b c :=
  ⟨h.le, h.nil, h.max, reads_set h.rd hne v, h.byt⟩
theorem BS.set3 {w w0 : World} {A : Option Addr} {b : List Int} {c g i j k : Nat} {p q : Int} {B : Option Addr} {m cc : Nat} {t : TypeId} {fr : Nat × Nat} (h : BS w A b c) (h0 : w.heap[g]? = w0.heap[g]?) (hB : w0.heap[g]? = some (.cells #[.int .i64 p, .int .i64 q, .slice B m cc] t fr)) (u v x : Value) :
    BS (((w.setCell ⟨g, i, none⟩ u).setCell ⟨g, j, none⟩ v).setCell ⟨g, k, none⟩ x) A b c := by
  have hne := reads_apart h.rd (h0.trans hB)
  exact ((h.set hne u).set hne v).set hne x
/-- A message: its number, its id, its body. -/
structure M3 where
  op : Int
  id : Int
  b : List Int
def numH (b : List Int) : Int := b.getD 0 0 * 256 + b.getD 1 0
/-- The message that bytes begin with, and how many they are; or the error's number. -/
def readP (b : List Int) : Int ⊕ (M3 × Nat) :=
  if b.length < 2 then .inl 3
  else if numH b < 7 ∨ 4103 < numH b then .inl 2
  else if (b.length : Int) < numH b then .inl 3
  else .inr (⟨b.getD 2 0, numU (b.drop 3), (b.take (numH b).toNat).drop 7⟩, (numH b).toNat)
theorem num_2 (A : Option Addr) (b : List Int) (c : Nat) (w : World) (hl : b.length = 2) (hb : Byt b) (hr : ReadsInt w .u8 A 2 b) : Calls Tryd.prog 103 #[.slice A 2 c] w fun e w' => e = .returned (.int .i64 (numH b)) ∧ w = w' := by
  obtain ⟨ad, rfl, hcell⟩ := hr.2.2 (by omega)
  have y0 := hb.at_ 0; have y1 := hb.at_ 1
  have hN := Lib.hid (show numH b = b.getD 0 0 * 256 + b.getD 1 0 from rfl)
  have g0 : w.cell? ad = some (.int .u8 (b.getD 0 0)) := by have := hcell 0 (by omega); simpa [Addr.add] using this
  have g1 : w.cell? { ad with off := ad.off + 1, spot := none } = some (.int .u8 (b.getD 1 0)) := hcell 1 (by omega)
  generalize b.getD 0 0 = z0 at *; generalize b.getD 1 0 = z1 at *
  clear hcell hr hl
  go_enter Tryd.func103, Tryd.ntmps103
  go_wp2
  refine wp_loop_rounds 3 ?_
  iterate 3 (rw [rounds_succ]; go_wp2)
  go_ret
  refine ⟨?_, rfl⟩
  show Ending.returned (.int .i64 (bits .or .i64 (wrap64 (bits .or .i64 0 z0 * 256)) z1)) = _
  rw [or0 z0 y0, shlOr _ _ (by omega) (by omega) y1, hN.out]
theorem num_4 (A : Option Addr) (b : List Int) (c : Nat) (w : World) (hl : b.length = 4) (hb : Byt b) (hr : ReadsInt w .u8 A 4 b) : Calls Tryd.prog 103 #[.slice A 4 c] w fun e w' => e = .returned (.int .i64 (numU b)) ∧ w = w' := by
  obtain ⟨ad, rfl, hcell⟩ := hr.2.2 (by omega)
  have y0 := hb.at_ 0; have y1 := hb.at_ 1; have y2 := hb.at_ 2; have y3 := hb.at_ 3
  have hN := Lib.hid (show numU b = b.getD 0 0 * 16777216 + b.getD 1 0 * 65536 + b.getD 2 0 * 256 + b.getD 3 0 from rfl)
  have g0 : w.cell? ad = some (.int .u8 (b.getD 0 0)) := by have := hcell 0 (by omega); simpa [Addr.add] using this
  have g1 : w.cell? { ad with off := ad.off + 1, spot := none } = some (.int .u8 (b.getD 1 0)) := hcell 1 (by omega)
  have g2 : w.cell? { ad with off := ad.off + 2, spot := none } = some (.int .u8 (b.getD 2 0)) := hcell 2 (by omega)
  have g3 : w.cell? { ad with off := ad.off + 3, spot := none } = some (.int .u8 (b.getD 3 0)) := hcell 3 (by omega)
  generalize b.getD 0 0 = z0 at *; generalize b.getD 1 0 = z1 at *; generalize b.getD 2 0 = z2 at *; generalize b.getD 3 0 = z3 at *
  clear hcell hr hl
  go_enter Tryd.func103, Tryd.ntmps103
  go_wp2
  refine wp_loop_rounds 5 ?_
  iterate 5 (rw [rounds_succ]; go_wp2)
  go_ret
  refine ⟨?_, rfl⟩
  show Ending.returned (.int .i64 (bits .or .i64 (wrap64 (bits .or .i64 (wrap64 (bits .or .i64 (wrap64 (bits .or .i64 0 z0 * 256)) z1 * 256)) z2 * 256)) z3)) = _
  rw [or0 z0 y0, shlOr _ _ (by omega) (by omega) y1, shlOr _ _ (by omega) (by omega) y2, shlOr _ _ (by omega) (by omega) y3, hN.out]
  congr 2; omega
theorem numH_bd {b : List Int} (h : Byt b) : 0 ≤ numH b ∧ numH b ≤ 65535 := by
  have h0 := h.at_ 0; have h1 := h.at_ 1; unfold numH; omega
theorem numH_take (b : List Int) (n : Nat) (h : 2 ≤ n) : numH (b.take n) = numH b := by
  unfold numH; simp only [List.getD_eq_getElem?_getD, List.getElem?_take, show 0 < n by omega, show 1 < n by omega, if_true]
/-- What is told of a message. -/
def RdP (w : World) (Q : Nat → Prop) (r : Int ⊕ (M3 × Nat)) (e : Ending) (w' : World) : Prop := match r with
  | .inl i => e = .returned (.tuple #[(.agg #[.int .i64 (0), .int .i64 (0), .slice (none) (0) (0)]), .int .i64 0, .int .i64 i]) ∧ Below w.heap.size w w'
  | .inr (m, n) => ∃ A c, e = .returned (.tuple #[(.agg #[.int .i64 (m.op), .int .i64 (m.id), .slice (A) (m.b.length) (c)]), .int .i64 n, .int .i64 0]) ∧ BS w' A m.b c ∧ Below w.heap.size w w' ∧ (0 < m.b.length → ∀ ad, A = some ad → Q ad.block)
theorem frame_Read3 (A : Option Addr) (b : List Int) (c : Nat) (w : World) (hs : BS w A b c) (h : b.length < 2) : Calls Tryd.prog 88 #[.slice A b.length c] w (RdP w (fun g => w.heap.size ≤ g) (.inl 3)) := by
  go_enter Tryd.func88, Tryd.ntmps88
  go_wp2
  refine bodyPost_ret (v := .tuple #[(.agg #[.int .i64 (0), .int .i64 (0), .slice (none) (0) (0)]), .int .i64 0, .int .i64 3]) (by simp [results, Tryd.results88, go_sem, ↓IntWalk.iteOmega, *]) rfl ?_
  exact ⟨rfl, by (repeat (first | (with_reducible exact Below.refl _ _) | ((with_reducible refine Below.alloc ?_ ?hB _); (case hB => (first | omega | (simp; done) | (simp; omega)))) | ((with_reducible refine Below.setCell ?_ ?hB _); (case hB => (first | omega | (simp; done) | (simp; omega)))) | (with_reducible refine Below.drew ?_) | ((with_reducible refine below_ext_of ?_ ?hB); (case hB => (first | omega | (simp; done) | (simp; omega)))) | ((with_reducible refine Below.trans ?_ (Below.mono (by assumption) ?hB)); (case hB => (first | omega | (simp; done) | (simp; omega))))))⟩
theorem ref_Read3 (A : Option Addr) (b : List Int) (c : Nat) (w : World) (hs : BS w A b c) (h : b.length < 2) : Calls Tryd.prog 89 #[.slice A b.length c] w (RdP w (fun g => ∃ ad, A = some ad ∧ g = ad.block) (.inl 3)) := by
  go_enter Tryd.func89, Tryd.ntmps89
  go_wp2
  refine bodyPost_ret (v := .tuple #[(.agg #[.int .i64 (0), .int .i64 (0), .slice (none) (0) (0)]), .int .i64 0, .int .i64 3]) (by simp [results, Tryd.results89, go_sem, ↓IntWalk.iteOmega, *]) rfl ?_
  exact ⟨rfl, by (repeat (first | (with_reducible exact Below.refl _ _) | ((with_reducible refine Below.alloc ?_ ?hB _); (case hB => (first | omega | (simp; done) | (simp; omega)))) | ((with_reducible refine Below.setCell ?_ ?hB _); (case hB => (first | omega | (simp; done) | (simp; omega)))) | (with_reducible refine Below.drew ?_) | ((with_reducible refine below_ext_of ?_ ?hB); (case hB => (first | omega | (simp; done) | (simp; omega)))) | ((with_reducible refine Below.trans ?_ (Below.mono (by assumption) ?hB)); (case hB => (first | omega | (simp; done) | (simp; omega))))))⟩
end Go.Proofs.YtinnaiofgbjicaaDoor
