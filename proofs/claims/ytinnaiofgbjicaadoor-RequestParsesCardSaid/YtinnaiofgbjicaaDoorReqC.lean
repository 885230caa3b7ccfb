/- A message of bytes, in plain lists; the numbers of bytes, walked. -/
import Derived.Test.YtinnaiofgbjicaaDoorEvC
import Derived.Test.YtinnaiofgbjicaaDoorUnpD
import Derived.Deep.MidRow
import Derived.Test.YtinnaiofgbjicaaDoorArgV
namespace Go.Proofs.YtinnaiofgbjicaaDoor
open Go.RowKit Go.Proofs.YtinnaiofgbjicaaDoorW.PrintWords
set_option linter.unusedSimpArgs false
set_option linter.unusedVariables false
set_option maxRecDepth 1000000
theorem reads_apart {w : World} {A : Option Addr} {n g : Nat} {xs : List Int} {p q : Int} {B : Option Addr} {m c : Nat} {t : TypeId} {fr : Nat × Nat} (h : ReadsInt w .u8 A n xs) (hB : w.heap[g]? = some (.cells #[.int .i64 p, .int .i64 q, .slice B m c] t fr)) : 0 < n → ∀ ad, A = some ad → ad.block ≠ g := by
  intro hn ad hA e
  obtain ⟨ad', e', hc⟩ := h.2.2 hn
  rw [hA] at e'; injection e' with e'; subst e'
  have h0 := hc 0 hn
  have hz : ad.add 0 = ad := by simp [Addr.add]
  rw [hz] at h0
  subst e
  unfold World.cell? at h0
  rw [hB] at h0
  rcases ad with ⟨bl, off, sp⟩
  match off, h0 with
  | 0, h0 => simp at h0
  | 1, h0 => simp at h0
  | 2, h0 => simp at h0
  | k + 3, h0 => simp at h0
theorem BS.set {w : World} {A : Option Addr} {b : List Int} {c g i : Nat} (h : BS w A b c) (hne : 0 < b.length → ∀ ad, A = some ad → ad.block ≠ g) (v : Value) : BS (w.setCell ⟨g, i, none⟩ v) A b c :=
  ⟨h.le, h.nil, h.max, reads_set h.rd hne v, h.byt⟩
theorem BS.set3 {w w0 : World} {A : Option Addr} {b : List Int} {c g i j k : Nat} {p q : Int} {B : Option Addr} {m cc : Nat} {t : TypeId} {fr : Nat × Nat} (h : BS w A b c) (h0 : w.heap[g]? = w0.heap[g]?) (hB : w0.heap[g]? = some (.cells #[.int .i64 p, .int .i64 q, .slice B m cc] t fr)) (u v x : Value) :
    BS (((w.setCell ⟨g, i, none⟩ u).setCell ⟨g, j, none⟩ v).setCell ⟨g, k, none⟩ x) A b c := by
  have hne := reads_apart h.rd (h0.trans hB)
  exact ((h.set hne u).set hne v).set hne x
/-- A message: its number, its id, its body. -/
structure M3 where
  op : Int
  id : Int
  b : List Int
def numH (b : List Int) : Int := b.getD 0 0 * 256 + b.getD 1 0
/-- The message that bytes begin with, and how many they are; or the error's number. -/
def readP (b : List Int) : Int ⊕ (M3 × Nat) :=
  if b.length < 2 then .inl 3
  else if numH b < 7 ∨ 4103 < numH b then .inl 2
  else if (b.length : Int) < numH b then .inl 3
  else .inr (⟨b.getD 2 0, numU (b.drop 3), (b.take (numH b).toNat).drop 7⟩, (numH b).toNat)
theorem num_2 (A : Option Addr) (b : List Int) (c : Nat) (w : World) (hl : b.length = 2) (hb : Byt b) (hr : ReadsInt w .u8 A 2 b) : Calls Tryd.prog 103 #[.slice A 2 c] w fun e w' => e = .returned (.int .i64 (numH b)) ∧ w = w' := by
  obtain ⟨ad, rfl, hcell⟩ := hr.2.2 (by omega)
  have y0 := hb.at_ 0; have y1 := hb.at_ 1
  have hN := Lib.hid (show numH b = b.getD 0 0 * 256 + b.getD 1 0 from rfl)
  have g0 : w.cell? ad = some (.int .u8 (b.getD 0 0)) := by have := hcell 0 (by omega); simpa [Addr.add] using this
  have g1 : w.cell? { ad with off := ad.off + 1, spot := none } = some (.int .u8 (b.getD 1 0)) := hcell 1 (by omega)
  generalize b.getD 0 0 = z0 at *; generalize b.getD 1 0 = z1 at *
  clear hcell hr hl
  go_enter Tryd.func103, Tryd.ntmps103
  go_wp2
  refine wp_loop_rounds 3 ?_
  iterate 3 (rw [rounds_succ]; go_wp2)
  go_ret
  refine ⟨?_, rfl⟩
  show Ending.returned (.int .i64 (bits .or .i64 (wrap64 (bits .or .i64 0 z0 * 256)) z1)) = _
  rw [or0 z0 y0, shlOr _ _ (by omega) (by omega) y1, hN.out]
theorem num_4 (A : Option Addr) (b : List Int) (c : Nat) (w : World) (hl : b.length = 4) (hb : Byt b) (hr : ReadsInt w .u8 A 4 b) : Calls Tryd.prog 103 #[.slice A 4 c] w fun e w' => e = .returned (.int .i64 (numU b)) ∧ w = w' := by
  obtain ⟨ad, rfl, hcell⟩ := hr.2.2 (by omega)
  have y0 := hb.at_ 0; have y1 := hb.at_ 1; have y2 := hb.at_ 2; have y3 := hb.at_ 3
  have hN := Lib.hid (show numU b = b.getD 0 0 * 16777216 + b.getD 1 0 * 65536 + b.getD 2 0 * 256 + b.getD 3 0 from rfl)
  have g0 : w.cell? ad = some (.int .u8 (b.getD 0 0)) := by have := hcell 0 (by omega); simpa [Addr.add] using this
  have g1 : w.cell? { ad with off := ad.off + 1, spot := none } = some (.int .u8 (b.getD 1 0)) := hcell 1 (by omega)
  have g2 : w.cell? { ad with off := ad.off + 2, spot := none } = some (.int .u8 (b.getD 2 0)) := hcell 2 (by omega)
  have g3 : w.cell? { ad with off := ad.off + 3, spot := none } = some (.int .u8 (b.getD 3 0)) := hcell 3 (by omega)
  generalize b.getD 0 0 = z0 at *; generalize b.getD 1 0 = z1 at *; generalize b.getD 2 0 = z2 at *; generalize b.getD 3 0 = z3 at *
  clear hcell hr hl
  go_enter Tryd.func103, Tryd.ntmps103
  go_wp2
  refine wp_loop_rounds 5 ?_
  iterate 5 (rw [rounds_succ]; go_wp2)
  go_ret
  refine ⟨?_, rfl⟩
  show Ending.returned (.int .i64 (bits .or .i64 (wrap64 (bits .or .i64 (wrap64 (bits .or .i64 (wrap64 (bits .or .i64 0 z0 * 256)) z1 * 256)) z2 * 256)) z3)) = _
  rw [or0 z0 y0, shlOr _ _ (by omega) (by omega) y1, shlOr _ _ (by omega) (by omega) y2, shlOr _ _ (by omega) (by omega) y3, hN.out]
  congr 2; omega
theorem numH_bd {b : List Int} (h : Byt b) : 0 ≤ numH b ∧ numH b ≤ 65535 := by
  have h0 := h.at_ 0; have h1 := h.at_ 1; unfold numH; omega
theorem numH_take (b : List Int) (n : Nat) (h : 2 ≤ n) : numH (b.take n) = numH b := by
  unfold numH; simp only [List.getD_eq_getElem?_getD, List.getElem?_take, show 0 < n by omega, show 1 < n by omega, if_true]
/-- What is told of a message. -/
def RdP (w : World) (Q : Nat → Prop) (r : Int ⊕ (M3 × Nat)) (e : Ending) (w' : World) : Prop := match r with
  | .inl i => e = .returned (.tuple #[(.agg #[.int .i64 (0), .int .i64 (0), .slice (none) (0) (0)]), .int .i64 0, .int .i64 i]) ∧ Below w.heap.size w w'
  | .inr (m, n) => ∃ A c, e = .returned (.tuple #[(.agg #[.int .i64 (m.op), .int .i64 (m.id), .slice (A) (m.b.length) (c)]), .int .i64 n, .int .i64 0]) ∧ BS w' A m.b c ∧ Below w.heap.size w w' ∧ (0 < m.b.length → ∀ ad, A = some ad → Q ad.block)
theorem frame_Read3 (A : Option Addr) (b : List Int) (c : Nat) (w : World) (hs : BS w A b c) (h : b.length < 2) : Calls Tryd.prog 88 #[.slice A b.length c] w (RdP w (fun g => w.heap.size ≤ g) (.inl 3)) := by
  go_enter Tryd.func88, Tryd.ntmps88
  go_wp2
  refine bodyPost_ret (v := .tuple #[(.agg #[.int .i64 (0), .int .i64 (0), .slice (none) (0) (0)]), .int .i64 0, .int .i64 3]) (by simp [results, Tryd.results88, go_sem, ↓IntWalk.iteOmega, *]) rfl ?_
  exact ⟨rfl, by (repeat (first | (with_reducible exact Below.refl _ _) | ((with_reducible refine Below.alloc ?_ ?hB _); (case hB => (first | omega | (simp; done) | (simp; omega)))) | ((with_reducible refine Below.setCell ?_ ?hB _); (case hB => (first | omega | (simp; done) | (simp; omega)))) | (with_reducible refine Below.drew ?_) | ((with_reducible refine below_ext_of ?_ ?hB); (case hB => (first | omega | (simp; done) | (simp; omega)))) | ((with_reducible refine Below.trans ?_ (Below.mono (by assumption) ?hB)); (case hB => (first | omega | (simp; done) | (simp; omega))))))⟩
theorem ref_Read3 (A : Option Addr) (b : List Int) (c : Nat) (w : World) (hs : BS w A b c) (h : b.length < 2) : Calls Tryd.prog 89 #[.slice A b.length c] w (RdP w (fun g => ∃ ad, A = some ad ∧ g = ad.block) (.inl 3)) := by
  go_enter Tryd.func89, Tryd.ntmps89
  go_wp2
  refine bodyPost_ret (v := .tuple #[(.agg #[.int .i64 (0), .int .i64 (0), .slice (none) (0) (0)]), .int .i64 0, .int .i64 3]) (by simp [results, Tryd.results89, go_sem, ↓IntWalk.iteOmega, *]) rfl ?_
  exact ⟨rfl, by (repeat (first | (with_reducible exact Below.refl _ _) | ((with_reducible refine Below.alloc ?_ ?hB _); (case hB => (first | omega | (simp; done) | (simp; omega)))) | ((with_reducible refine Below.setCell ?_ ?hB _); (case hB => (first | omega | (simp; done) | (simp; omega)))) | (with_reducible refine Below.drew ?_) | ((with_reducible refine below_ext_of ?_ ?hB); (case hB => (first | omega | (simp; done) | (simp; omega)))) | ((with_reducible refine Below.trans ?_ (Below.mono (by assumption) ?hB)); (case hB => (first | omega | (simp; done) | (simp; omega))))))⟩
end Go.Proofs.YtinnaiofgbjicaaDoor
namespace Go.Proofs.YtinnaiofgbjicaaDoor
open Go.RowKit Go.Proofs.YtinnaiofgbjicaaDoorW.PrintWords
set_option linter.unusedSimpArgs false
set_option linter.unusedVariables false
set_option maxRecDepth 1000000
def namesQ : List ByteArray := [{ data := #[98, 117, 102, 102, 101, 114] }, { data := #[117, 110, 98, 117, 102, 102, 101, 114] }, { data := #[119, 114, 105, 116, 101] }, { data := #[115, 117, 114, 102, 97, 99, 101] }, { data := #[117, 110, 115, 117, 114, 102, 97, 99, 101] }, { data := #[97, 116, 116, 97, 99, 104] }, { data := #[100, 97, 109, 97, 103, 101] }, { data := #[109, 111, 118, 101] }, { data := #[114, 97, 105, 115, 101] }, { data := #[108, 111, 119, 101, 114] }, { data := #[115, 99, 97, 108, 101] }, { data := #[99, 108, 105, 112] }, { data := #[111, 112, 97, 113, 117, 101] }, { data := #[102, 97, 100, 101] }, { data := #[116, 105, 116, 108, 101] }, { data := #[102, 114, 97, 109, 101] }, { data := #[99, 111, 109, 109, 105, 116] }, { data := #[99, 117, 114, 115, 111, 114] }, { data := #[112, 111, 105, 110, 116] }]
def formsQ : List ByteArray := [{ data := #[117, 117] }, { data := #[] }, { data := #[114, 98] }, { data := #[] }, { data := #[] }, { data := #[117] }, { data := #[114] }, { data := #[105, 105] }, { data := #[117] }, { data := #[] }, { data := #[117] }, { data := #[114] }, { data := #[114] }, { data := #[117] }, { data := #[115] }, { data := #[117] }, { data := #[] }, { data := #[105, 105] }, { data := #[105, 105] }]
def mayQ : List Nat := [72, 71, 73, 71, 71, 71, 69, 67, 71, 71, 75, 69, 69, 76, 77, 71, 71, 67, 67]
def kindsA : Array Value := #[.string { data := #[98, 117, 102, 102, 101, 114] }, .string { data := #[117, 117] }, .func (.func 72) #[] #[], .string { data := #[117, 110, 98, 117, 102, 102, 101, 114] }, .string { data := #[] }, .func (.func 71) #[] #[], .string { data := #[119, 114, 105, 116, 101] }, .string { data := #[114, 98] }, .func (.func 73) #[] #[], .string { data := #[115, 117, 114, 102, 97, 99, 101] }, .string { data := #[] }, .func (.func 71) #[] #[], .string { data := #[117, 110, 115, 117, 114, 102, 97, 99, 101] }, .string { data := #[] }, .func (.func 71) #[] #[], .string { data := #[97, 116, 116, 97, 99, 104] }, .string { data := #[117] }, .func (.func 71) #[] #[], .string { data := #[100, 97, 109, 97, 103, 101] }, .string { data := #[114] }, .func (.func 69) #[] #[], .string { data := #[109, 111, 118, 101] }, .string { data := #[105, 105] }, .func (.func 67) #[] #[], .string { data := #[114, 97, 105, 115, 101] }, .string { data := #[117] }, .func (.func 71) #[] #[], .string { data := #[108, 111, 119, 101, 114] }, .string { data := #[] }, .func (.func 71) #[] #[], .string { data := #[115, 99, 97, 108, 101] }, .string { data := #[117] }, .func (.func 75) #[] #[], .string { data := #[99, 108, 105, 112] }, .string { data := #[114] }, .func (.func 69) #[] #[], .string { data := #[111, 112, 97, 113, 117, 101] }, .string { data := #[114] }, .func (.func 69) #[] #[], .string { data := #[102, 97, 100, 101] }, .string { data := #[117] }, .func (.func 76) #[] #[], .string { data := #[116, 105, 116, 108, 101] }, .string { data := #[115] }, .func (.func 77) #[] #[], .string { data := #[102, 114, 97, 109, 101] }, .string { data := #[117] }, .func (.func 71) #[] #[], .string { data := #[99, 111, 109, 109, 105, 116] }, .string { data := #[] }, .func (.func 71) #[] #[], .string { data := #[99, 117, 114, 115, 111, 114] }, .string { data := #[105, 105] }, .func (.func 67) #[] #[], .string { data := #[112, 111, 105, 110, 116] }, .string { data := #[105, 105] }, .func (.func 67) #[] #[]]
theorem below_setCells : ∀ (vs : List Value) {B : Nat} {w w' : World} (o b : Nat), Below B w w' → B ≤ b → Below B w (w'.setCells b o vs)
  | [], _, _, _, _, _, h, _ => h
  | v :: r, _, _, _, o, b, h, hb => by
    rw [World.setCells]
    exact below_setCells r (o + 1) b (h.setCell (p := ⟨b, o, none⟩) hb v) hb
theorem there_new (w : World) (cs : Array Value) (t : TypeId) (n : Nat) (hn : n = cs.size) : (w.alloc (.cells cs t)).there w.heap.size 0 n := fun j hj => by
  subst hn
  refine ⟨?_, blk_frozen (blk_new w (.cells cs t)) _⟩
  rw [World.cell?_alloc_new, Nat.zero_add, Array.getElem?_eq_getElem hj]; rfl
set_option maxHeartbeats 4000000 in
theorem req_kinds (w : World) : Calls Tryd.prog 45 #[] w fun e w' => e = .returned (.agg kindsA) ∧ Below w.heap.size w w' := by
  go_enter Tryd.func45, Tryd.ntmps45
  go_wp2_with (first | (refine wpList_store_mid rfl 95 _ _ rfl w.heap.size 0 kindsA rfl rfl ?_ (by kernel_rfl) (by kernel_rfl) ?_; (focus (exact there_new _ _ _ _ (by kernel_rfl)))))
  have hld : ∀ W : World, W.rangeAt w.heap.size 0 kindsA.toList → (loadVar 95 ⟨w.heap.size, 0, none⟩).run Tryd.prog W = .ok (.agg kindsA) W := fun W h => by
    have := run_loadVar_mid (P := Tryd.prog) W w.heap.size 0 95 kindsA.toList _ h Tryd.underlying95 rfl (by kernel_rfl)
    rwa [Array.toArray_toList] at this
  refine bodyPost_ret (v := .agg kindsA) ?_ rfl ⟨rfl, below_setCells _ _ _ ((Below.refl _ _).alloc (Nat.le_refl _) _) (Nat.le_refl _)⟩
  have key : ∀ (W : World) (tmps : Array Value), W.rangeAt w.heap.size 0 kindsA.toList → tmps.getD 0 undef = .pointer (some ⟨w.heap.size, 0, none⟩) → (results Tryd.f45 tmps).run Tryd.prog W = .ok (.agg kindsA) W := fun W tmps h h0 => by
    simp only [results, Tryd.results45]
    have h0' : tmps[0]?.getD undef = .pointer (some ⟨w.heap.size, 0, none⟩) := by simpa using h0
    simp [Sem.run_bind, Result.andThen, asAddr, h0', hld W h]
  exact key _ _ (World.rangeAt_setCells_same _ _ _ _ (there_new _ _ _ _ (by kernel_rfl))) rfl
end Go.Proofs.YtinnaiofgbjicaaDoor
namespace Go.Proofs.YtinnaiofgbjicaaDoor
open Go.RowKit Go.Proofs.YtinnaiofgbjicaaDoorW.PrintWords
set_option linter.unusedSimpArgs false
set_option linter.unusedVariables false
set_option maxRecDepth 1000000
def emp : ByteArray := { data := #[] }
def nameQ (k : Nat) : ByteArray := namesQ.getD k emp
def formQ (k : Nat) : ByteArray := formsQ.getD k emp
theorem lt19 {k : Nat} (h : k < 19) : k = 0 ∨ k = 1 ∨ k = 2 ∨ k = 3 ∨ k = 4 ∨ k = 5 ∨ k = 6 ∨ k = 7 ∨ k = 8 ∨ k = 9 ∨ k = 10 ∨ k = 11 ∨ k = 12 ∨ k = 13 ∨ k = 14 ∨ k = 15 ∨ k = 16 ∨ k = 17 ∨ k = 18 := by omega
theorem kinds_at (k : Nat) (h : k < 19) (W : World) : (Instr.index 95 (.agg kindsA) (.int .i64 k)).run Tryd.prog W = .ok (.agg #[.string (nameQ k), .string (formQ k), .func (.func (mayQ.getD k 0)) #[] #[]]) W := by
  rcases lt19 h with rfl | rfl | rfl | rfl | rfl | rfl | rfl | rfl | rfl | rfl | rfl | rfl | rfl | rfl | rfl | rfl | rfl | rfl | rfl <;> kernel_rfl
theorem field_name (a b : ByteArray) (v : Value) (W : World) : (Instr.field 94 (.agg #[.string a, .string b, v]) 0).run Tryd.prog W = .ok (.string a) W := by kernel_rfl
theorem field_form (a b : ByteArray) (v : Value) (W : World) : (Instr.field 94 (.agg #[.string a, .string b, v]) 1).run Tryd.prog W = .ok (.string b) W := by kernel_rfl
theorem field_may (a b : ByteArray) (v : Value) (W : World) : (Instr.field 94 (.agg #[.string a, .string b, v]) 2).run Tryd.prog W = .ok v W := by kernel_rfl
theorem req_FormY (k : Nat) (w : World) (h : k < 19) : Calls Tryd.prog 19 #[.int .i64 k] w fun e w' => e = .returned (.tuple #[.string (formQ k), .bool true]) ∧ Below w.heap.size w w' := by
  have hk0 : (0 : Int) ≤ (k : Int) := (by omega); have hk1 : (k : Int) < 19 := (by omega); have cK := req_kinds; have hKi := kinds_at k h; have hf0 := field_name; have hf1 := field_form; have hf2 := field_may; generalize kindsA = K at *
  generalize nameQ k = nm at *
  generalize formQ k = fm at *
  go_enter Tryd.func19, Tryd.ntmps19
  go_wp2_with (first | (go_at_call 45; (with_reducible refine (cK _).mono ?_); rintro en w1 ⟨rfl, hb1⟩; obtain ⟨hc1, hf1⟩ := bcell hb1; have hz1 := hb1.size))
  go_ret2
  exact ⟨rfl, by (repeat (first | (with_reducible exact Below.refl _ _) | ((with_reducible refine Below.alloc ?_ ?hB _); (case hB => (first | omega | (simp; done) | (simp; omega)))) | ((with_reducible refine Below.setCell ?_ ?hB _); (case hB => (first | omega | (simp; done) | (simp; omega)))) | (with_reducible refine Below.drew ?_) | ((with_reducible refine below_ext_of ?_ ?hB); (case hB => (first | omega | (simp; done) | (simp; omega)))) | ((with_reducible refine Below.trans ?_ (Below.mono (by assumption) ?hB)); (case hB => (first | omega | (simp; done) | (simp; omega))))))⟩
theorem req_NameY (k : Nat) (w : World) (h : k < 19) : Calls Tryd.prog 20 #[.int .i64 k] w fun e w' => e = .returned (.string (nameQ k)) ∧ Below w.heap.size w w' := by
  have hk0 : (0 : Int) ≤ (k : Int) := (by omega); have hk1 : (k : Int) < 19 := (by omega); have cK := req_kinds; have hKi := kinds_at k h; have hf0 := field_name; have hf1 := field_form; have hf2 := field_may; generalize kindsA = K at *
  generalize nameQ k = nm at *
  generalize formQ k = fm at *
  go_enter Tryd.func20, Tryd.ntmps20
  go_wp2_with (first | (go_at_call 45; (with_reducible refine (cK _).mono ?_); rintro en w1 ⟨rfl, hb1⟩; obtain ⟨hc1, hf1⟩ := bcell hb1; have hz1 := hb1.size))
  go_ret
  exact ⟨rfl, by (repeat (first | (with_reducible exact Below.refl _ _) | ((with_reducible refine Below.alloc ?_ ?hB _); (case hB => (first | omega | (simp; done) | (simp; omega)))) | ((with_reducible refine Below.setCell ?_ ?hB _); (case hB => (first | omega | (simp; done) | (simp; omega)))) | (with_reducible refine Below.drew ?_) | ((with_reducible refine below_ext_of ?_ ?hB); (case hB => (first | omega | (simp; done) | (simp; omega)))) | ((with_reducible refine Below.trans ?_ (Below.mono (by assumption) ?hB)); (case hB => (first | omega | (simp; done) | (simp; omega))))))⟩
theorem req_FormN (op : Int) (w : World) (h : op < 0 ∨ (0 ≤ op ∧ 19 ≤ op)) : Calls Tryd.prog 19 #[.int .i64 op] w fun e w' => e = .returned (.tuple #[.string emp, .bool false]) ∧ Below w.heap.size w w' := by
  rcases h with h1 | ⟨h1, h2⟩
  all_goals
    go_enter Tryd.func19, Tryd.ntmps19
    go_wp2
    go_ret2
    exact ⟨rfl, by (repeat (first | (with_reducible exact Below.refl _ _) | ((with_reducible refine Below.alloc ?_ ?hB _); (case hB => (first | omega | (simp; done) | (simp; omega)))) | ((with_reducible refine Below.setCell ?_ ?hB _); (case hB => (first | omega | (simp; done) | (simp; omega)))) | (with_reducible refine Below.drew ?_) | ((with_reducible refine below_ext_of ?_ ?hB); (case hB => (first | omega | (simp; done) | (simp; omega)))) | ((with_reducible refine Below.trans ?_ (Below.mono (by assumption) ?hB)); (case hB => (first | omega | (simp; done) | (simp; omega))))))⟩
theorem req_NameN (op : Int) (w : World) (h : op < 0 ∨ (0 ≤ op ∧ 19 ≤ op)) : Calls Tryd.prog 20 #[.int .i64 op] w fun e w' => e = .returned (.string emp) ∧ Below w.heap.size w w' := by
  rcases h with h1 | ⟨h1, h2⟩
  all_goals
    go_enter Tryd.func20, Tryd.ntmps20
    go_wp2
    go_ret
    exact ⟨rfl, by (repeat (first | (with_reducible exact Below.refl _ _) | ((with_reducible refine Below.alloc ?_ ?hB _); (case hB => (first | omega | (simp; done) | (simp; omega)))) | ((with_reducible refine Below.setCell ?_ ?hB _); (case hB => (first | omega | (simp; done) | (simp; omega)))) | (with_reducible refine Below.drew ?_) | ((with_reducible refine below_ext_of ?_ ?hB); (case hB => (first | omega | (simp; done) | (simp; omega)))) | ((with_reducible refine Below.trans ?_ (Below.mono (by assumption) ?hB)); (case hB => (first | omega | (simp; done) | (simp; omega))))))⟩
def RowQ (w : World) (l : List ByteArray) (e : Ending) (w' : World) : Prop := ∃ g, e = .returned (.slice (some ⟨g, 0, none⟩) 19 19) ∧ w.heap.size ≤ g ∧ g < w'.heap.size ∧ (∀ k, k < 19 → w'.cell? ⟨g, k, none⟩ = some (.string (l.getD k emp))) ∧ Below w.heap.size w w'
theorem ref_Forms (w : World) : Calls Tryd.prog 21 #[] w (RowQ w formsQ) := by
  go_enter Tryd.func21, Tryd.ntmps21
  go_wp2
  go_ret
  refine ⟨w.heap.size, rfl, Nat.le_refl _, by simp, fun k hk => ?_, by (repeat (first | (with_reducible exact Below.refl _ _) | ((with_reducible refine Below.alloc ?_ ?hB _); (case hB => (first | omega | (simp; done) | (simp; omega)))) | ((with_reducible refine Below.setCell ?_ ?hB _); (case hB => (first | omega | (simp; done) | (simp; omega)))) | (with_reducible refine Below.drew ?_) | ((with_reducible refine below_ext_of ?_ ?hB); (case hB => (first | omega | (simp; done) | (simp; omega)))) | ((with_reducible refine Below.trans ?_ (Below.mono (by assumption) ?hB)); (case hB => (first | omega | (simp; done) | (simp; omega))))))⟩
  rw [World.cell?_alloc_new]
  rcases lt19 hk with rfl | rfl | rfl | rfl | rfl | rfl | rfl | rfl | rfl | rfl | rfl | rfl | rfl | rfl | rfl | rfl | rfl | rfl | rfl <;> rfl
theorem ref_Names (w : World) : Calls Tryd.prog 22 #[] w (RowQ w namesQ) := by
  go_enter Tryd.func22, Tryd.ntmps22
  go_wp2
  go_ret
  refine ⟨w.heap.size, rfl, Nat.le_refl _, by simp, fun k hk => ?_, by (repeat (first | (with_reducible exact Below.refl _ _) | ((with_reducible refine Below.alloc ?_ ?hB _); (case hB => (first | omega | (simp; done) | (simp; omega)))) | ((with_reducible refine Below.setCell ?_ ?hB _); (case hB => (first | omega | (simp; done) | (simp; omega)))) | (with_reducible refine Below.drew ?_) | ((with_reducible refine below_ext_of ?_ ?hB); (case hB => (first | omega | (simp; done) | (simp; omega)))) | ((with_reducible refine Below.trans ?_ (Below.mono (by assumption) ?hB)); (case hB => (first | omega | (simp; done) | (simp; omega))))))⟩
  rw [World.cell?_alloc_new]
  rcases lt19 hk with rfl | rfl | rfl | rfl | rfl | rfl | rfl | rfl | rfl | rfl | rfl | rfl | rfl | rfl | rfl | rfl | rfl | rfl | rfl <;> rfl
end Go.Proofs.YtinnaiofgbjicaaDoor
namespace Go.Proofs.YtinnaiofgbjicaaDoor
open Go.RowKit Go.Proofs.YtinnaiofgbjicaaDoorW.PrintWords
set_option linter.unusedSimpArgs false
set_option linter.unusedVariables false
set_option maxRecDepth 1000000
def TRQ : TypeId := 36
set_option maxHeartbeats 2000000 in
theorem between_one (w : World) (g : Nat) (h : w.cell? ⟨g, 0, none⟩ = some (.int .i64 9)) (hg : g < w.heap.size) : Calls Tryd.prog 68 #[.int .i64 0, .int .i64 255, .slice (some ⟨g, 0, none⟩) 1 1] w fun e w' => e = .returned (.bool true) ∧ Below w.heap.size w w' := by
  go_enter Tryd.func68, Tryd.ntmps68
  go_wp2
  refine wp_loop_rounds 3 ?_
  iterate 2 (rw [rounds_succ]; go_wp2)
  go_ret
  exact ⟨rfl, by (repeat (first | (with_reducible exact Below.refl _ _) | ((with_reducible refine Below.alloc ?_ ?hB _); (case hB => (first | omega | (simp; done) | (simp; omega)))) | ((with_reducible refine Below.setCell ?_ ?hB _); (case hB => (first | omega | (simp; done) | (simp; omega)))) | (with_reducible refine Below.drew ?_) | ((with_reducible refine below_ext_of ?_ ?hB); (case hB => (first | omega | (simp; done) | (simp; omega)))) | ((with_reducible refine Below.trans ?_ (Below.mono (by assumption) ?hB)); (case hB => (first | omega | (simp; done) | (simp; omega))))))⟩
set_option maxHeartbeats 2000000 in
theorem fill_one (n : Int) (g : Nat) (w : World) (A : Option Addr) (c : Nat) (op id : Int) (hB : w.heap[g]? = some (.cells #[.int .i64 op, .int .i64 id, .int .i64 0, .int .i64 0, .int .i64 0, .int .i64 0, .int .i64 0, .int .i64 0, .string { data := #[] }, .slice none 0 0] 36 (0, 0))) (hr : AnyRow w A [vI n]) : Calls Tryd.prog 43 #[.pointer (some ⟨g, 0, none⟩), .slice A 1 c] w fun e w' => e = .returned (.tuple #[]) ∧ w' = w.setCell ⟨g, 2, none⟩ (.int .i64 n) := by
  obtain ⟨ad, u, rfl, f0, hx⟩ := hr 0 (by simp)
  have f0 : w.cell? ad = some u := f0
  have q2 : w.cell? ⟨g, 2, none⟩ = some (.int .i64 0) := (blk_cell hB 2).trans rfl
  have qf := blk_frozen hB 2
  have hgl := heap_lt hB
  have hx' : u = .iface 3 (.int .i64 n) := by
    cases hx with
    | int h => rfl
    | str h => exact absurd h (by show ¬ (0 : Int) = 1; omega)
    | rect h => exact absurd h (by show ¬ (0 : Int) = 2; omega)
    | byt h A m hm hr1 => exact absurd h (by show ¬ (0 : Int) = 3; omega)
    | oth h => exact absurd rfl h.1
  subst hx'
  clear hx hr hB
  go_enter Tryd.func43, Tryd.ntmps43
  go_wp2
  refine wp_loop_rounds 3 ?_
  iterate 2 (rw [rounds_succ]; go_wp2)
  refine bodyPost_end (v := .tuple #[]) (by simp [results, Tryd.results43, go_sem]) rfl ⟨rfl, rfl⟩
set_option maxHeartbeats 2000000 in
theorem may_fade (w : World) : Calls Tryd.prog 76 #[(.agg #[.int .i64 13, .int .i64 5, .int .i64 9, .int .i64 0, .int .i64 0, .int .i64 0, .int .i64 0, .int .i64 0, .string { data := #[] }, .slice none 0 0])] w fun e w' => e = .returned (.bool true) ∧ Below w.heap.size w w' := by
  have cb := between_one
  go_enter Tryd.func76, Tryd.ntmps76
  go_wp2_with (first | (go_at_call 68; (with_reducible refine (cb _ _ ?_ ?_).mono ?_); (focus (go_simp; done)); (focus (simp; done)); rintro en w1 ⟨rfl, hb1⟩; have hz1 := hb1.size; (try simp only [World.size_alloc, World.size_setCell, World.size_drew] at hz1)))
  go_ret
  exact ⟨rfl, by (repeat (first | (with_reducible exact Below.refl _ _) | ((with_reducible refine Below.alloc ?_ ?hB _); (case hB => (first | omega | (simp; done) | (simp; omega)))) | ((with_reducible refine Below.setCell ?_ ?hB _); (case hB => (first | omega | (simp; done) | (simp; omega)))) | (with_reducible refine Below.drew ?_) | ((with_reducible refine below_ext_of ?_ ?hB); (case hB => (first | omega | (simp; done) | (simp; omega)))) | ((with_reducible refine Below.trans ?_ (Below.mono (by assumption) ?hB)); (case hB => (first | omega | (simp; done) | (simp; omega))))))⟩
def DecP (w : World) (e : Ending) (w' : World) : Prop := e = .returned (.tuple #[(.agg #[.int .i64 13, .int .i64 5, .int .i64 9, .int .i64 0, .int .i64 0, .int .i64 0, .int .i64 0, .int .i64 0, .string { data := #[] }, .slice none 0 0]), .int .i64 0]) ∧ Below w.heap.size w w'
theorem unp_fade : unpackP (formQ 13) [0, 0, 0, 9] = (0, [vI 9]) := by kernel_rfl
set_option maxHeartbeats 4000000 in
theorem decode_fade (w : World) (hs : BS w (some ⟨w.heap.size - 1, 0, none⟩) [0, 0, 0, 9] 4) : Calls Tryd.prog 15 #[.agg #[.int .i64 13, .int .i64 5, .slice (some ⟨w.heap.size - 1, 0, none⟩) 4 4]] w (DecP w) := by
  have cF : ∀ w, Calls Tryd.prog 19 #[.int .i64 13] w (fun e w' => e = .returned (.tuple #[.string (formQ 13), .bool true]) ∧ Below w.heap.size w w') := fun w => req_FormY 13 w (by omega)
  have cU : ∀ w1, Below w.heap.size w w1 → Calls Tryd.prog 42 #[.string (formQ 13), .slice (some ⟨w.heap.size - 1, 0, none⟩) 4 4] w1 (fun e w' => ∃ A c, e = .returned (.tuple #[.slice A 1 c, .int .i64 0]) ∧ 1 ≤ c ∧ AnyRow w' A [vI 9] ∧ Below w1.heap.size w1 w') := fun w1 hb => by
    have := args_Unpack (formQ 13) (some ⟨w.heap.size - 1, 0, none⟩) [0, 0, 0, 9] 4 w1 (by decide +kernel) hs.byt (by simp) hs.le hs.nil (hs.rd.below hb)
    unfold UnpP at this
    rw [unp_fade] at this
    exact this
  obtain ⟨f, hf⟩ : ∃ f, formQ 13 = f := ⟨_, rfl⟩
  rw [hf] at cF cU
  clear hf hs
  generalize w.heap.size - 1 = g0 at *
  have cm : ∀ w, Calls Tryd.prog 44 #[.agg #[.int .i64 0, .int .i64 5, .slice none 0 0]] w fun e w' => e = .returned (.bool true) ∧ Below w.heap.size w w' := fun w => frame_May 0 5 none 0 0 w (by omega)
  have cK := req_kinds
  have c7 := may_fade
  have hKi : ∀ W, (Instr.index 95 (.agg kindsA) (.int .i64 13)).run Tryd.prog W = .ok (.agg #[.string (nameQ 13), .string (formQ 13), .func (.func 76) #[] #[]]) W := kinds_at 13 (by omega)
  have hf2 := field_may
  generalize nameQ 13 = nm at *
  generalize formQ 13 = fm at *
  generalize kindsA = K at *
  go_enter Tryd.func15, Tryd.ntmps15
  go_wp2_with (first | (go_at_call 19; (with_reducible refine (cF _).mono ?_); rintro en w1 ⟨rfl, hb1⟩; obtain ⟨hc1, hf1⟩ := bcell hb1; have hz1 := hb1.size; (try simp only [World.size_alloc, World.size_setCell, World.size_drew] at hz1)) | (go_at_call 42; (with_reducible refine (cU _ ?_).mono ?_); (focus ((repeat (first | (with_reducible exact Below.refl _ _) | ((with_reducible refine Below.alloc ?_ ?hB _); (case hB => (first | omega | (simp; done) | (simp; omega)))) | ((with_reducible refine Below.setCell ?_ ?hB _); (case hB => (first | omega | (simp; done) | (simp; omega)))) | (with_reducible refine Below.drew ?_) | ((with_reducible refine below_ext_of ?_ ?hB); (case hB => (first | omega | (simp; done) | (simp; omega)))) | ((with_reducible refine Below.trans ?_ (Below.mono (by assumption) ?hB)); (case hB => (first | omega | (simp; done) | (simp; omega)))))); done)); rintro en w2 ⟨A2, c2, rfl, hl2, hr2, hb2⟩; obtain ⟨hc2, hf2⟩ := bcell hb2; have hz2 := hb2.size; replace hr2 := Lib.hid hr2; (try simp only [World.size_alloc, World.size_setCell, World.size_drew] at hz2)) | (go_at_call 43; (with_reducible refine (fill_one 9 _ _ _ _ 13 5 (blk_new _ _) (hr2.out.below ?_)).mono ?_); (focus ((repeat (first | (with_reducible exact Below.refl _ _) | ((with_reducible refine Below.alloc ?_ ?hB _); (case hB => (first | omega | (simp; done) | (simp; omega)))) | ((with_reducible refine Below.setCell ?_ ?hB _); (case hB => (first | omega | (simp; done) | (simp; omega)))) | (with_reducible refine Below.drew ?_) | ((with_reducible refine below_ext_of ?_ ?hB); (case hB => (first | omega | (simp; done) | (simp; omega)))) | ((with_reducible refine Below.trans ?_ (Below.mono (by assumption) ?hB)); (case hB => (first | omega | (simp; done) | (simp; omega)))))); done)); rintro en W ⟨rfl, rfl⟩))
  (refine wp_region_ext_lit (by kernel_rfl) (by kernel_rfl) ?_; (repeat (go_big_quiet_step ((first | (go_at_call 44; with_reducible exact ext_call (cm _)) | (go_at_call 45; with_reducible exact ext_call (cK _)) | (go_at_call 76; with_reducible exact ext_call (c7 _)))))); refine wpQuiet_nil ?_; intro w3 hb_w3; obtain ⟨hc_w3, hf_w3⟩ := bcell hb_w3; have hz_w3 := hb_w3.size; (try simp only [World.size_alloc, World.size_setCell, World.size_drew] at hz_w3))
  go_wp2
  refine bodyPost_ret (v := .tuple #[(.agg #[.int .i64 13, .int .i64 5, .int .i64 9, .int .i64 0, .int .i64 0, .int .i64 0, .int .i64 0, .int .i64 0, .string { data := #[] }, .slice none 0 0]), .int .i64 0]) (by simp [results, Tryd.results15, go_sem, ↓IntWalk.iteOmega, *]) rfl ?_
  exact ⟨rfl, by (repeat (first | (with_reducible exact Below.refl _ _) | ((with_reducible refine Below.alloc ?_ ?hB _); (case hB => (first | omega | (simp; done) | (simp; omega)))) | ((with_reducible refine Below.setCell ?_ ?hB _); (case hB => (first | omega | (simp; done) | (simp; omega)))) | (with_reducible refine Below.drew ?_) | ((with_reducible refine below_ext_of ?_ ?hB); (case hB => (first | omega | (simp; done) | (simp; omega)))) | ((with_reducible refine Below.trans ?_ (Below.mono (by assumption) ?hB)); (case hB => (first | omega | (simp; done) | (simp; omega))))))⟩
set_option maxHeartbeats 2000000 in
theorem lives09 (w : World) : Calls Tryd.prog 18 #[] w fun e w' => e = .returned (.bool true) ∧ Below w.heap.size w w' := by
  have cD : ∀ (W : World) (n : Nat), W.heap.size = n → Calls Tryd.prog 15 #[.agg #[.int .i64 13, .int .i64 5, .slice (some ⟨n, 0, none⟩) 4 4]] (W.alloc (.cells #[.int .u8 0, .int .u8 0, .int .u8 0, .int .u8 9] 5)) (DecP (W.alloc (.cells #[.int .u8 0, .int .u8 0, .int .u8 0, .int .u8 9] 5))) := fun W n hn => by
    subst hn
    have hs : BS (W.alloc (.cells #[.int .u8 0, .int .u8 0, .int .u8 0, .int .u8 9] 5)) (some ⟨W.heap.size, 0, none⟩) [0, 0, 0, 9] 4 := ⟨by simp, (fun e => by cases e), by omega, reads_lit W [0, 0, 0, 9] (by simp), (fun n hn => by simp at hn; omega)⟩
    have := decode_fade (W.alloc (.cells #[.int .u8 0, .int .u8 0, .int .u8 0, .int .u8 9] 5)) (by simpa using hs)
    simpa using this
  unfold DecP at cD
  go_enter Tryd.func18, Tryd.ntmps18
  go_wp2_with (first | (go_at_call 15; (with_reducible refine (cD _ _ ?_).mono ?_); (focus (first | rfl | (simp; done))); rintro en w1 ⟨rfl, hb1⟩; have hz1 := hb1.size; (try simp only [World.size_alloc, World.size_setCell, World.size_drew] at hz1)))
  go_ret
  exact ⟨rfl, by (repeat (first | (with_reducible exact Below.refl _ _) | ((with_reducible refine Below.alloc ?_ ?hB _); (case hB => (first | omega | (simp; done) | (simp; omega)))) | ((with_reducible refine Below.setCell ?_ ?hB _); (case hB => (first | omega | (simp; done) | (simp; omega)))) | (with_reducible refine Below.drew ?_) | ((with_reducible refine below_ext_of ?_ ?hB); (case hB => (first | omega | (simp; done) | (simp; omega)))) | ((with_reducible refine Below.trans ?_ (Below.mono (by assumption) ?hB)); (case hB => (first | omega | (simp; done) | (simp; omega))))))⟩
end Go.Proofs.YtinnaiofgbjicaaDoor
