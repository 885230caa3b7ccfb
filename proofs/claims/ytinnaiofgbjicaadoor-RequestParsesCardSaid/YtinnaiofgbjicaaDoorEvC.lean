/- Rows of events, read and of the call's own. -/
import Derived.Test.YtinnaiofgbjicaaDoorUnpA
namespace Go.Proofs.YtinnaiofgbjicaaDoor
open Go.RowKit Go.Proofs.YtinnaiofgbjicaaDoorW.PrintWords
set_option linter.unusedSimpArgs false
set_option linter.unusedVariables false
set_option maxRecDepth 1000000
/-- An event: its kind, its id, its numbers. -/
@[ext] structure E4 where
  k : Int
  id : Int
  a : Int
  b : Int
deriving DecidableEq
structure E4.Bd (e : E4) : Prop where
  k : -9223372036854775808 ≤ e.k ∧ e.k ≤ 9223372036854775807
  id : -9223372036854775808 ≤ e.id ∧ e.id ≤ 9223372036854775807
  a : -9223372036854775808 ≤ e.a ∧ e.a ≤ 9223372036854775807
  b : -9223372036854775808 ≤ e.b ∧ e.b ≤ 9223372036854775807
def E4.cells (e : E4) : List Value := [.int .i64 e.k, .int .i64 e.id, .int .i64 e.a, .int .i64 e.b]
def e0 : E4 := ⟨0, 0, 0, 0⟩
def atE (l : List E4) (i : Nat) : E4 := l.getD i e0
theorem atE_get {l : List E4} {i : Nat} (h : i < l.length) : atE l i = l[i] := by unfold atE; rw [List.getD_eq_getElem?_getD, List.getElem?_eq_getElem h]; rfl
def flatE (l : List E4) : List Value := l.flatMap E4.cells
theorem flatE_append (l m : List E4) : flatE (l ++ m) = flatE l ++ flatE m := by simp [flatE]
theorem flatE_one (e : E4) : flatE [e] = [.int .i64 e.k, .int .i64 e.id, .int .i64 e.a, .int .i64 e.b] := rfl
theorem flatE_len (l : List E4) : (flatE l).length = l.length * 4 := by
  induction l with
  | nil => rfl
  | cons h l ih => simp only [flatE, List.flatMap_cons, List.length_append, List.length_cons] at *; simp only [E4.cells, List.length_cons, List.length_nil]; omega
theorem flatE_get (l : List E4) (i j : Nat) (hi : i < l.length) (hj : j < 4) : (flatE l)[i * 4 + j]? = ((atE l i).cells)[j]? := by
  rw [atE_get hi]
  induction l generalizing i with
  | nil => simp at hi
  | cons h l ih =>
    have hl : h.cells.length = 4 := rfl
    show (h.cells ++ flatE l)[i * 4 + j]? = _
    cases i with
    | zero => simp only [Nat.zero_mul, Nat.zero_add, List.getElem_cons_zero]; rw [List.getElem?_append_left (by omega)]
    | succ i =>
      rw [List.getElem?_append_right (by omega), show (i + 1) * 4 + j - h.cells.length = i * 4 + j by omega]
      exact ih i (by simpa using hi)
theorem add_fieldE (ad : Addr) (n j : Nat) (hj : 0 < j) : ad.add (n + j) = ⟨(ad.add n).block, (ad.add n).off + j, none⟩ := add_field _ _ _ hj
/-- A row of events, read. -/
def ERow (w : World) (A : Option Addr) (l : List E4) : Prop := ∀ i, i < l.length → ∃ ad, A = some ad ∧
  w.cell? (ad.add (i * 4)) = some (.int .i64 (atE l i).k) ∧ w.cell? ⟨(ad.add (i * 4)).block, (ad.add (i * 4)).off + 1, none⟩ = some (.int .i64 (atE l i).id) ∧
  w.cell? ⟨(ad.add (i * 4)).block, (ad.add (i * 4)).off + 2, none⟩ = some (.int .i64 (atE l i).a) ∧ w.cell? ⟨(ad.add (i * 4)).block, (ad.add (i * 4)).off + 3, none⟩ = some (.int .i64 (atE l i).b)
theorem ERow.below {w w1 : World} {A : Option Addr} {l : List E4} (h : ERow w A l) (hb : Below w.heap.size w w1) : ERow w1 A l := by
  intro i hi
  obtain ⟨ad, rfl, h0, h1, h2, h3⟩ := h i hi
  exact ⟨ad, rfl, pw_cell_below hb h0, pw_cell_below hb h1, pw_cell_below hb h2, pw_cell_below hb h3⟩
theorem ERow.nil (w : World) (A : Option Addr) : ERow w A [] := fun i hi => by simp at hi
/-- A slice of events: its row, its room. -/
structure ER (w : World) (A : Option Addr) (l : List E4) (c : Nat) : Prop where
  le : l.length ≤ c
  nil : A = none → c = 0
  max : c ≤ 9223372036854775807
  row : ERow w A l
theorem ER.below {w w1 : World} {A : Option Addr} {l : List E4} {c : Nat} (h : ER w A l c) (hb : Below w.heap.size w w1) : ER w1 A l c := ⟨h.le, h.nil, h.max, h.row.below hb⟩
theorem ER.len {w : World} {A : Option Addr} {l : List E4} {c : Nat} (h : ER w A l c) : l.length ≤ 9223372036854775807 := Nat.le_trans h.le h.max
theorem ERow.of_news {w : World} {ad : Addr} {l : List E4} (h : ∀ j u, (flatE l)[j]? = some u → w.cell? (ad.add j) = some u) : ERow w (some ad) l := by
  intro i hi
  refine ⟨ad, rfl, h _ _ ?_, ?_, ?_, ?_⟩
  · have := flatE_get l i 0 hi (by omega); rw [Nat.add_zero] at this; rw [this]; rfl
  · rw [← add_field _ _ _ (by omega)]; exact h _ _ (by rw [flatE_get l i 1 hi (by omega)]; rfl)
  · rw [← add_field _ _ _ (by omega)]; exact h _ _ (by rw [flatE_get l i 2 hi (by omega)]; rfl)
  · rw [← add_field _ _ _ (by omega)]; exact h _ _ (by rw [flatE_get l i 3 hi (by omega)]; rfl)
/-- A row of events of the call's own. -/
def OwnE (w : World) (base : Nat) (t : TypeId) (v : Value) (l : List E4) : Prop := w.ownsRow base t 4 v l.length (flatE l)
theorem OwnE.nil (w : World) (base : Nat) (t : TypeId) : OwnE w base t (.slice none 0 0) [] := own_nil _ _ _ _
theorem OwnE.below {w w1 : World} {base : Nat} {t : TypeId} {v : Value} {l : List E4} (h : OwnE w base t v l) (hb : Below w.heap.size w w1) : OwnE w1 base t v l := pw_own_below h hb
theorem OwnE.mono {w : World} {b1 b2 : Nat} {t : TypeId} {v : Value} {l : List E4} (h : OwnE w b1 t v l) (hb : b2 ≤ b1) : OwnE w b2 t v l := by
  refine ⟨h.1, h.2.imp id fun ⟨g, cap, cur, h0, h1, h2⟩ => ⟨g, cap, cur, h0, by omega, h2⟩⟩
theorem OwnE.er {w : World} {base : Nat} {t : TypeId} {v : Value} {l : List E4} (h : OwnE w base t v l) : ∃ A c, v = .slice A l.length c ∧ ER w A l c := by
  rcases h.2 with ⟨rfl, h0⟩ | ⟨g, cap, cur, rfl, hg, hh, h1, h2, _⟩
  · obtain rfl := List.eq_nil_of_length_eq_zero h0
    exact ⟨none, 0, rfl, Nat.le_refl _, fun _ => rfl, by omega, ERow.nil _ _⟩
  · exact ⟨_, cap, rfl, h1, fun e => (by cases e), (by unfold maxLen at h2; omega), ERow.of_news (World.ownsRow.cells h (g := g) rfl)⟩
theorem OwnE.snoc {w : World} {base : Nat} {t : TypeId} {v : Value} {l : List E4} {k : E4} (h : w.ownsRow base t 4 v (l.length + 1) (flatE l ++ [.int .i64 k.k, .int .i64 k.id, .int .i64 k.a, .int .i64 k.b])) : OwnE w base t v (l ++ [k]) := by
  unfold OwnE; rw [flatE_append, flatE_one, List.length_append]; exact h
theorem takeEv (l : List E4) (k : Nat) (h : k < l.length) : l.take (k + 1) = l.take k ++ [atE l k] := by
  rw [List.take_succ_eq_append_getElem h, atE_get h]
theorem info_ee : (Tryd.prog.info? 51).map (fun i => (i.zero, i.size, i.bytes)) = some (some (.agg #[.int .i64 0, .int .i64 0, .int .i64 0, .int .i64 0]), 4, 32) := by kernel_rfl
theorem info_ev : (Tryd.prog.info? 57).map (fun i => (i.zero, i.size, i.bytes)) = some (some (.agg #[.int .i64 0, .int .i64 0, .int .i64 0, .int .i64 0]), 4, 32) := by kernel_rfl
def RowE (w : World) (t : TypeId) (l : List E4) (e : Ending) (w' : World) : Prop := ∃ v, e = .returned v ∧ OwnE w' w.heap.size t v l ∧ Below w.heap.size w w'
theorem er_new (w : World) (t : TypeId) (l : List E4) (hl : l.length ≤ 100000) : ER (w.alloc (.cells (flatE l).toArray t)) (some ⟨w.heap.size, 0, none⟩) l l.length := by
  refine ⟨Nat.le_refl _, fun e => (by cases e), by omega, ERow.of_news fun j u hj => ?_⟩
  rw [add_p, World.cell?_alloc_new]; simpa using hj
end Go.Proofs.YtinnaiofgbjicaaDoor
namespace Go.Proofs.YtinnaiofgbjicaaDoor
open Go.RowKit Go.Proofs.YtinnaiofgbjicaaDoorW.PrintWords
set_option linter.unusedSimpArgs false
set_option linter.unusedVariables false
set_option maxRecDepth 1000000
def mayM (op id : Int) (n : Nat) : Bool := decide (0 ≤ op ∧ op ≤ 255 ∧ 0 ≤ id ∧ id ≤ 4294967295 ∧ n ≤ 4096)
theorem mayM_yes {op id : Int} {n : Nat} (h : mayM op id n = true) : 0 ≤ op ∧ op ≤ 255 ∧ 0 ≤ id ∧ id ≤ 4294967295 ∧ n ≤ 4096 := of_decide_eq_true h
theorem mayM_no {op id : Int} {n : Nat} (h : mayM op id n = false) : op < 0 ∨ (0 ≤ op ∧ 255 < op) ∨ (0 ≤ op ∧ op ≤ 255 ∧ id < 0) ∨ (0 ≤ op ∧ op ≤ 255 ∧ 0 ≤ id ∧ 4294967295 < id) ∨ (0 ≤ op ∧ op ≤ 255 ∧ 0 ≤ id ∧ id ≤ 4294967295 ∧ 4096 < n) := by
  have := of_decide_eq_false h; omega
theorem frame_May (op id : Int) (A : Option Addr) (n c : Nat) (w : World) (hn : n ≤ 9223372036854775807) : Calls Tryd.prog 44 #[(.agg #[.int .i64 (op), .int .i64 (id), .slice (A) (n) (c)])] w fun e w' => e = .returned (.bool (mayM op id n)) ∧ Below w.heap.size w w' := by
  cases h : mayM op id n
  · rcases mayM_no h with h1 | ⟨h1, h2⟩ | ⟨h1, h2, h3⟩ | ⟨h1, h2, h3, h4⟩ | ⟨h1, h2, h3, h4, h5⟩
    all_goals
      clear h
      go_enter Tryd.func44, Tryd.ntmps44
      go_wp2
      (go_ret; refine ⟨?_, by (repeat (first | (with_reducible exact Below.refl _ _) | ((with_reducible refine Below.alloc ?_ ?hB _); (case hB => (first | omega | (simp; done) | (simp; omega)))) | ((with_reducible refine Below.setCell ?_ ?hB _); (case hB => (first | omega | (simp; done) | (simp; omega)))) | (with_reducible refine Below.drew ?_) | ((with_reducible refine below_ext_of ?_ ?hB); (case hB => (first | omega | (simp; done) | (simp; omega)))) | ((with_reducible refine Below.trans ?_ (Below.mono (by assumption) ?hB)); (case hB => (first | omega | (simp; done) | (simp; omega))))))⟩); (first | rfl | exact congrArg (fun x => Ending.returned (.bool x)) (decide_eq_false (by omega)))
  · obtain ⟨h1, h2, h3, h4, h5⟩ := mayM_yes h
    clear h
    go_enter Tryd.func44, Tryd.ntmps44
    go_wp2
    (go_ret; refine ⟨?_, by (repeat (first | (with_reducible exact Below.refl _ _) | ((with_reducible refine Below.alloc ?_ ?hB _); (case hB => (first | omega | (simp; done) | (simp; omega)))) | ((with_reducible refine Below.setCell ?_ ?hB _); (case hB => (first | omega | (simp; done) | (simp; omega)))) | (with_reducible refine Below.drew ?_) | ((with_reducible refine below_ext_of ?_ ?hB); (case hB => (first | omega | (simp; done) | (simp; omega)))) | ((with_reducible refine Below.trans ?_ (Below.mono (by assumption) ?hB)); (case hB => (first | omega | (simp; done) | (simp; omega))))))⟩); (first | rfl | exact congrArg (fun x => Ending.returned (.bool x)) (decide_eq_true (by omega)))
theorem ref_MayM (op id : Int) (A : Option Addr) (n c : Nat) (w : World) (hn : n ≤ 9223372036854775807) : Calls Tryd.prog 38 #[(.agg #[.int .i64 (op), .int .i64 (id), .slice (A) (n) (c)])] w fun e w' => e = .returned (.bool (mayM op id n)) ∧ Below w.heap.size w w' := by
  cases h : mayM op id n
  · rcases mayM_no h with h1 | ⟨h1, h2⟩ | ⟨h1, h2, h3⟩ | ⟨h1, h2, h3, h4⟩ | ⟨h1, h2, h3, h4, h5⟩
    all_goals
      clear h
      go_enter Tryd.func38, Tryd.ntmps38
      go_wp2
      (go_ret; refine ⟨?_, by (repeat (first | (with_reducible exact Below.refl _ _) | ((with_reducible refine Below.alloc ?_ ?hB _); (case hB => (first | omega | (simp; done) | (simp; omega)))) | ((with_reducible refine Below.setCell ?_ ?hB _); (case hB => (first | omega | (simp; done) | (simp; omega)))) | (with_reducible refine Below.drew ?_) | ((with_reducible refine below_ext_of ?_ ?hB); (case hB => (first | omega | (simp; done) | (simp; omega)))) | ((with_reducible refine Below.trans ?_ (Below.mono (by assumption) ?hB)); (case hB => (first | omega | (simp; done) | (simp; omega))))))⟩); (first | rfl | exact congrArg (fun x => Ending.returned (.bool x)) (decide_eq_false (by omega)))
  · obtain ⟨h1, h2, h3, h4, h5⟩ := mayM_yes h
    clear h
    go_enter Tryd.func38, Tryd.ntmps38
    go_wp2
    (go_ret; refine ⟨?_, by (repeat (first | (with_reducible exact Below.refl _ _) | ((with_reducible refine Below.alloc ?_ ?hB _); (case hB => (first | omega | (simp; done) | (simp; omega)))) | ((with_reducible refine Below.setCell ?_ ?hB _); (case hB => (first | omega | (simp; done) | (simp; omega)))) | (with_reducible refine Below.drew ?_) | ((with_reducible refine below_ext_of ?_ ?hB); (case hB => (first | omega | (simp; done) | (simp; omega)))) | ((with_reducible refine Below.trans ?_ (Below.mono (by assumption) ?hB)); (case hB => (first | omega | (simp; done) | (simp; omega))))))⟩); (first | rfl | exact congrArg (fun x => Ending.returned (.bool x)) (decide_eq_true (by omega)))
/-- The seven bytes ahead of a body. -/
def head7 (op id : Int) (n : Nat) : List Int := [(7 + (n : Int)) / 256 % 256, (7 + (n : Int)) % 256, op % 256, id / 16777216 % 256, id / 65536 % 256, id / 256 % 256, id % 256]
def msgB (op id : Int) (b : List Int) : List Int := head7 op id b.length ++ b
def headS (op id : Int) (n : Nat) : List Int := [(7 + (n : Int)) / 256, (7 + (n : Int)) % 256, op, id / 16777216, id / 65536 % 256, id / 256 % 256, id % 256]
theorem head_s {op id : Int} {n : Nat} (h : mayM op id n = true) : headS op id n = head7 op id n := by
  obtain ⟨h1, h2, h3, h4, h5⟩ := mayM_yes h
  unfold headS head7
  simp only [List.cons.injEq, and_true, true_and]
  omega
def WrP (w : World) (op id : Int) (b : List Int) (e : Ending) (w' : World) : Prop := ∃ v, e = .returned (.tuple #[v, .int .i64 0]) ∧ w'.ownsRow w.heap.size 5 1 v (msgB op id b).length (nums .u8 (msgB op id b)) ∧ Below w.heap.size w w'
theorem frame_WriteNo (op id : Int) (A : Option Addr) (n c : Nat) (w : World) (hn : n ≤ 9223372036854775807) (h : mayM op id n = false) : Calls Tryd.prog 87 #[(.agg #[.int .i64 (op), .int .i64 (id), .slice (A) (n) (c)])] w fun e w' => e = .returned (.tuple #[.slice none 0 0, .int .i64 1]) ∧ Below w.heap.size w w' := by
  have cm := fun w => frame_May op id A n c w hn
  rw [h] at cm
  go_enter Tryd.func87, Tryd.ntmps87
  go_wp2_with (first | (go_at_call 44; (with_reducible refine (cm _).mono ?_); rintro e w1 ⟨rfl, hb1⟩; obtain ⟨hc1, hf1⟩ := bcell hb1; have hz1 := hb1.size; (try simp only [World.size_alloc, World.size_setCell, World.size_drew] at hz1)))
  go_ret2
  exact ⟨rfl, by (repeat (first | (with_reducible exact Below.refl _ _) | ((with_reducible refine Below.alloc ?_ ?hB _); (case hB => (first | omega | (simp; done) | (simp; omega)))) | ((with_reducible refine Below.setCell ?_ ?hB _); (case hB => (first | omega | (simp; done) | (simp; omega)))) | (with_reducible refine Below.drew ?_) | ((with_reducible refine below_ext_of ?_ ?hB); (case hB => (first | omega | (simp; done) | (simp; omega)))) | ((with_reducible refine Below.trans ?_ (Below.mono (by assumption) ?hB)); (case hB => (first | omega | (simp; done) | (simp; omega))))))⟩
theorem frame_WriteYes (op id : Int) (A : Option Addr) (b : List Int) (c : Nat) (w : World) (hs : BS w A b c) (h : mayM op id b.length = true) : Calls Tryd.prog 87 #[(.agg #[.int .i64 (op), .int .i64 (id), .slice (A) (b.length) (c)])] w (WrP w op id b) := by
  have cm := fun w => frame_May op id A b.length c w hs.rd.2.1
  have HH := Lib.hid (head_s h)
  rw [h] at cm
  obtain ⟨h1, h2, h3, h4, h5⟩ := mayM_yes h
  have HS := Lib.hid hs
  clear h hs
  have hl := fun w1 : World => (show (w1.alloc (.cells #[.int .u8 ((7 + (b.length : Int)) / 256), .int .u8 ((7 + (b.length : Int)) % 256), .int .u8 op, .int .u8 (id / 16777216), .int .u8 (id / 65536 % 256), .int .u8 (id / 256 % 256), .int .u8 (id % 256)] 5)).ownsRow w1.heap.size 5 1 (.slice (some ⟨w1.heap.size, 0, none⟩) 7 7) (headS op id b.length).length (nums .u8 (headS op id b.length)) from own_lit w1 w1.heap.size 5 .u8 (headS op id b.length) (Nat.le_refl _) (by simp [headS]))
  have hlen : (headS op id b.length).length = 7 := rfl
  go_enter Tryd.func87, Tryd.ntmps87
  go_wp2_with (first | (go_at_call 44; (with_reducible refine (cm _).mono ?_); rintro e w1 ⟨rfl, hb1⟩; obtain ⟨hc1, hf1⟩ := bcell hb1; have hz1 := hb1.size; (try simp only [World.size_alloc, World.size_setCell, World.size_drew] at hz1)) | (at_builtin; refine print_append_row (w0 := w1) (w1.heap.size) rfl _ _ 22 5 .u8 1 rfl Tryd.underlying22 info_u8 (by decide) _ ((headS op id b.length)) (b) _ _ _ rfl rfl (pw_own_below (hl w1) ?_) (ReadsInt.below HS.out.rd ?_) ?_ ?_ ?_ ?_; (focus ((repeat (first | (with_reducible exact Below.refl _ _) | ((with_reducible refine Below.alloc ?_ ?hB _); (case hB => (first | omega | (simp; done) | (simp; omega)))) | ((with_reducible refine Below.setCell ?_ ?hB _); (case hB => (first | omega | (simp; done) | (simp; omega)))) | (with_reducible refine Below.drew ?_) | ((with_reducible refine below_ext_of ?_ ?hB); (case hB => (first | omega | (simp; done) | (simp; omega)))) | ((with_reducible refine Below.trans ?_ (Below.mono (by assumption) ?hB)); (case hB => (first | omega | (simp; done) | (simp; omega)))))); done)); (focus ((repeat (first | (with_reducible exact Below.refl _ _) | ((with_reducible refine Below.alloc ?_ ?hB _); (case hB => (first | omega | (simp; done) | (simp; omega)))) | ((with_reducible refine Below.setCell ?_ ?hB _); (case hB => (first | omega | (simp; done) | (simp; omega)))) | (with_reducible refine Below.drew ?_) | ((with_reducible refine below_ext_of ?_ ?hB); (case hB => (first | omega | (simp; done) | (simp; omega)))) | ((with_reducible refine Below.trans ?_ (Below.mono (by assumption) ?hB)); (case hB => (first | omega | (simp; done) | (simp; omega)))))); done)); (focus ((repeat (first | (with_reducible exact Below.refl _ _) | ((with_reducible refine Below.alloc ?_ ?hB _); (case hB => (first | omega | (simp; done) | (simp; omega)))) | ((with_reducible refine Below.setCell ?_ ?hB _); (case hB => (first | omega | (simp; done) | (simp; omega)))) | (with_reducible refine Below.drew ?_) | ((with_reducible refine below_ext_of ?_ ?hB); (case hB => (first | omega | (simp; done) | (simp; omega)))) | ((with_reducible refine Below.trans ?_ (Below.mono (by assumption) ?hB)); (case hB => (first | omega | (simp; done) | (simp; omega)))))); done)); (focus ((first | omega | (simp; done) | (simp; omega)); done)); (focus ((try simp only [List.length_append, List.length_cons, List.length_nil]); omega)); intro v2 w2 hown2 hb2 _ _; have hz2 := hb2.size; (try simp only [World.size_alloc, World.size_setCell, World.size_drew] at hz2); obtain ⟨hc2, hf2⟩ := bcellB hb2))
  go_ret2
  exact ⟨_, rfl, by unfold msgB; rw [← HH.out]; exact own_less hown2 (by omega), (show Below w.heap.size w w1 from by (repeat (first | (with_reducible exact Below.refl _ _) | ((with_reducible refine Below.alloc ?_ ?hB _); (case hB => (first | omega | (simp; done) | (simp; omega)))) | ((with_reducible refine Below.setCell ?_ ?hB _); (case hB => (first | omega | (simp; done) | (simp; omega)))) | (with_reducible refine Below.drew ?_) | ((with_reducible refine below_ext_of ?_ ?hB); (case hB => (first | omega | (simp; done) | (simp; omega)))) | ((with_reducible refine Below.trans ?_ (Below.mono (by assumption) ?hB)); (case hB => (first | omega | (simp; done) | (simp; omega))))))).trans (hb2.mono (by omega))⟩
theorem ref_WriteNo (op id : Int) (A : Option Addr) (n c : Nat) (w : World) (hn : n ≤ 9223372036854775807) (h : mayM op id n = false) : Calls Tryd.prog 29 #[(.agg #[.int .i64 (op), .int .i64 (id), .slice (A) (n) (c)])] w fun e w' => e = .returned (.tuple #[.slice none 0 0, .int .i64 1]) ∧ Below w.heap.size w w' := by
  have cm := fun w => ref_MayM op id A n c w hn
  rw [h] at cm
  go_enter Tryd.func29, Tryd.ntmps29
  go_wp2_with (first | (go_at_call 38; (with_reducible refine (cm _).mono ?_); rintro e w1 ⟨rfl, hb1⟩; obtain ⟨hc1, hf1⟩ := bcell hb1; have hz1 := hb1.size; (try simp only [World.size_alloc, World.size_setCell, World.size_drew] at hz1)))
  go_ret2
  exact ⟨rfl, by (repeat (first | (with_reducible exact Below.refl _ _) | ((with_reducible refine Below.alloc ?_ ?hB _); (case hB => (first | omega | (simp; done) | (simp; omega)))) | ((with_reducible refine Below.setCell ?_ ?hB _); (case hB => (first | omega | (simp; done) | (simp; omega)))) | (with_reducible refine Below.drew ?_) | ((with_reducible refine below_ext_of ?_ ?hB); (case hB => (first | omega | (simp; done) | (simp; omega)))) | ((with_reducible refine Below.trans ?_ (Below.mono (by assumption) ?hB)); (case hB => (first | omega | (simp; done) | (simp; omega))))))⟩
theorem ref_WriteYes (op id : Int) (A : Option Addr) (b : List Int) (c : Nat) (w : World) (hs : BS w A b c) (h : mayM op id b.length = true) : Calls Tryd.prog 29 #[(.agg #[.int .i64 (op), .int .i64 (id), .slice (A) (b.length) (c)])] w (WrP w op id b) := by
  have cm := fun w => ref_MayM op id A b.length c w hs.rd.2.1
  have HH := Lib.hid (head_s h)
  rw [h] at cm
  obtain ⟨h1, h2, h3, h4, h5⟩ := mayM_yes h
  have HS := Lib.hid hs
  clear h hs
  have hl := fun w1 : World => (show (w1.alloc (.cells #[.int .u8 ((7 + (b.length : Int)) / 256), .int .u8 ((7 + (b.length : Int)) % 256), .int .u8 op, .int .u8 (id / 16777216), .int .u8 (id / 65536 % 256), .int .u8 (id / 256 % 256), .int .u8 (id % 256)] 5)).ownsRow w1.heap.size 5 1 (.slice (some ⟨w1.heap.size, 0, none⟩) 7 7) (headS op id b.length).length (nums .u8 (headS op id b.length)) from own_lit w1 w1.heap.size 5 .u8 (headS op id b.length) (Nat.le_refl _) (by simp [headS]))
  have hlen : (headS op id b.length).length = 7 := rfl
  go_enter Tryd.func29, Tryd.ntmps29
  go_wp2_with (first | (go_at_call 38; (with_reducible refine (cm _).mono ?_); rintro e w1 ⟨rfl, hb1⟩; obtain ⟨hc1, hf1⟩ := bcell hb1; have hz1 := hb1.size; (try simp only [World.size_alloc, World.size_setCell, World.size_drew] at hz1)) | (at_builtin; refine print_append_row (w0 := w1) (w1.heap.size) rfl _ _ 22 5 .u8 1 rfl Tryd.underlying22 info_u8 (by decide) _ ((headS op id b.length)) (b) _ _ _ rfl rfl (pw_own_below (hl w1) ?_) (ReadsInt.below HS.out.rd ?_) ?_ ?_ ?_ ?_; (focus ((repeat (first | (with_reducible exact Below.refl _ _) | ((with_reducible refine Below.alloc ?_ ?hB _); (case hB => (first | omega | (simp; done) | (simp; omega)))) | ((with_reducible refine Below.setCell ?_ ?hB _); (case hB => (first | omega | (simp; done) | (simp; omega)))) | (with_reducible refine Below.drew ?_) | ((with_reducible refine below_ext_of ?_ ?hB); (case hB => (first | omega | (simp; done) | (simp; omega)))) | ((with_reducible refine Below.trans ?_ (Below.mono (by assumption) ?hB)); (case hB => (first | omega | (simp; done) | (simp; omega)))))); done)); (focus ((repeat (first | (with_reducible exact Below.refl _ _) | ((with_reducible refine Below.alloc ?_ ?hB _); (case hB => (first | omega | (simp; done) | (simp; omega)))) | ((with_reducible refine Below.setCell ?_ ?hB _); (case hB => (first | omega | (simp; done) | (simp; omega)))) | (with_reducible refine Below.drew ?_) | ((with_reducible refine below_ext_of ?_ ?hB); (case hB => (first | omega | (simp; done) | (simp; omega)))) | ((with_reducible refine Below.trans ?_ (Below.mono (by assumption) ?hB)); (case hB => (first | omega | (simp; done) | (simp; omega)))))); done)); (focus ((repeat (first | (with_reducible exact Below.refl _ _) | ((with_reducible refine Below.alloc ?_ ?hB _); (case hB => (first | omega | (simp; done) | (simp; omega)))) | ((with_reducible refine Below.setCell ?_ ?hB _); (case hB => (first | omega | (simp; done) | (simp; omega)))) | (with_reducible refine Below.drew ?_) | ((with_reducible refine below_ext_of ?_ ?hB); (case hB => (first | omega | (simp; done) | (simp; omega)))) | ((with_reducible refine Below.trans ?_ (Below.mono (by assumption) ?hB)); (case hB => (first | omega | (simp; done) | (simp; omega)))))); done)); (focus ((first | omega | (simp; done) | (simp; omega)); done)); (focus ((try simp only [List.length_append, List.length_cons, List.length_nil]); omega)); intro v2 w2 hown2 hb2 _ _; have hz2 := hb2.size; (try simp only [World.size_alloc, World.size_setCell, World.size_drew] at hz2); obtain ⟨hc2, hf2⟩ := bcellB hb2))
  go_ret2
  exact ⟨_, rfl, by unfold msgB; rw [← HH.out]; exact own_less hown2 (by omega), (show Below w.heap.size w w1 from by (repeat (first | (with_reducible exact Below.refl _ _) | ((with_reducible refine Below.alloc ?_ ?hB _); (case hB => (first | omega | (simp; done) | (simp; omega)))) | ((with_reducible refine Below.setCell ?_ ?hB _); (case hB => (first | omega | (simp; done) | (simp; omega)))) | (with_reducible refine Below.drew ?_) | ((with_reducible refine below_ext_of ?_ ?hB); (case hB => (first | omega | (simp; done) | (simp; omega)))) | ((with_reducible refine Below.trans ?_ (Below.mono (by assumption) ?hB)); (case hB => (first | omega | (simp; done) | (simp; omega))))))).trans (hb2.mono (by omega))⟩
end Go.Proofs.YtinnaiofgbjicaaDoor
namespace Go.Proofs.YtinnaiofgbjicaaDoor
open Go.RowKit Go.Proofs.YtinnaiofgbjicaaDoorW.PrintWords
set_option linter.unusedSimpArgs false
set_option linter.unusedVariables false
set_option maxRecDepth 1000000
def formE (k : Int) : ByteArray := if k = 0 ∨ k = 3 then { data := #[117, 117] } else if k = 1 then { data := #[117] } else if k = 4 then { data := #[105, 105] } else { data := #[] }
theorem ref_formE (k : Int) (w : World) (h : 0 ≤ k ∧ k ≤ 5) : Calls Tryd.prog 48 #[.int .i64 k] w fun e w' => e = .returned (.string (formE k)) ∧ Below w.heap.size w w' := by
  rcases (show k = 0 ∨ k = 1 ∨ k = 2 ∨ k = 3 ∨ k = 4 ∨ k = 5 by omega) with rfl | rfl | rfl | rfl | rfl | rfl
  all_goals
    go_enter Tryd.func48, Tryd.ntmps48
    go_wp2
    (go_ret; refine ⟨?_, by (repeat (first | (with_reducible exact Below.refl _ _) | ((with_reducible refine Below.alloc ?_ ?hB _); (case hB => (first | omega | (simp; done) | (simp; omega)))) | ((with_reducible refine Below.setCell ?_ ?hB _); (case hB => (first | omega | (simp; done) | (simp; omega)))) | (with_reducible refine Below.drew ?_) | ((with_reducible refine below_ext_of ?_ ?hB); (case hB => (first | omega | (simp; done) | (simp; omega)))) | ((with_reducible refine Below.trans ?_ (Below.mono (by assumption) ?hB)); (case hB => (first | omega | (simp; done) | (simp; omega))))))⟩); rfl
def isE (k : Int) : Bool := decide (0 ≤ k ∧ k ≤ 5)
theorem ev_is (k : Int) (w : World) : Calls Tryd.prog 49 #[.int .i64 k] w fun e w' => e = .returned (.bool (isE k)) ∧ w = w' := by
  by_cases h0 : 0 ≤ k
  · by_cases h1 : k < 6
    · have H := Lib.hid (show isE k = true from decide_eq_true (by omega))
      have hd : decide (k < 6) = true := decide_eq_true h1
      go_enter Tryd.func49, Tryd.ntmps49
      go_wp2
      go_ret
      exact ⟨by rw [H.out]; rfl, rfl⟩
    · have H := Lib.hid (show isE k = false from decide_eq_false (by omega))
      have hd : decide (k < 6) = false := decide_eq_false h1
      go_enter Tryd.func49, Tryd.ntmps49
      go_wp2
      go_ret
      exact ⟨by rw [H.out]; rfl, rfl⟩
  · have H := Lib.hid (show isE k = false from decide_eq_false (by omega))
    go_enter Tryd.func49, Tryd.ntmps49
    go_wp2
    go_ret
    exact ⟨by rw [H.out]; rfl, rfl⟩
def nameE (k : Int) : ByteArray := if k = 0 then { data := #[101, 114, 114, 111, 114] } else if k = 1 then { data := #[102, 97, 116, 97, 108] } else if k = 2 then { data := #[114, 101, 108, 101, 97, 115, 101] } else if k = 3 then { data := #[100, 111, 110, 101] } else if k = 4 then { data := #[101, 110, 116, 101, 114] } else { data := #[108, 101, 97, 118, 101] }
set_option maxHeartbeats 2000000 in
theorem ev_form (k : Int) (w : World) (h : 0 ≤ k ∧ k ≤ 5) : Calls Tryd.prog 50 #[.int .i64 k] w fun e w' => e = .returned (.tuple #[.string (nameE k), .string (formE k)]) ∧ Below w.heap.size w w' := by
  rcases (show k = 0 ∨ k = 1 ∨ k = 2 ∨ k = 3 ∨ k = 4 ∨ k = 5 by omega) with rfl | rfl | rfl | rfl | rfl | rfl
  all_goals
    go_enter Tryd.func50, Tryd.ntmps50
    go_wp2
    go_region_with (fail)
    all_goals
      go_wp2
      go_ret2
      exact ⟨rfl, by (repeat (first | (with_reducible exact Below.refl _ _) | ((with_reducible refine Below.alloc ?_ ?hB _); (case hB => (first | omega | (simp; done) | (simp; omega)))) | ((with_reducible refine Below.setCell ?_ ?hB _); (case hB => (first | omega | (simp; done) | (simp; omega)))) | (with_reducible refine Below.drew ?_) | ((with_reducible refine below_ext_of ?_ ?hB); (case hB => (first | omega | (simp; done) | (simp; omega)))) | ((with_reducible refine Below.trans ?_ (Below.mono (by assumption) ?hB)); (case hB => (first | omega | (simp; done) | (simp; omega))))))⟩
/-- The numbers of an event, as arguments. -/
def vI (n : Int) : V8 := { v0 with n := n }
def argsE (e : E4) : List V8 := [vI e.a, vI e.b].take (formE e.k).size
def NumP (w : World) (l : List V8) (e : Ending) (w' : World) : Prop := ∃ A c, e = .returned (.slice A l.length c) ∧ (l.length ≤ c ∧ AnyRow w' A l) ∧ Below w.heap.size w w'
theorem any_two (w : World) (a b : Int) (n : Nat) (hn : n ≤ 2) : AnyRow (w.alloc (.cells #[(.iface 3 (.int .i64 a)), (.iface 3 (.int .i64 b))] 20)) (some ⟨w.heap.size, 0, none⟩) ([vI a, vI b].take n) := by
  intro i hi
  have hi2 : i < n ∧ i < 2 := by simp at hi; omega
  have e : at8 ([vI a, vI b].take n) i = at8 [vI a, vI b] i := by
    unfold at8; rw [List.getD_eq_getElem?_getD, List.getElem?_take, if_pos hi2.1, List.getD_eq_getElem?_getD]
  rw [e]
  rcases (show i = 0 ∨ i = 1 by omega) with rfl | rfl
  · exact ⟨_, _, rfl, by rw [add_p, World.cell?_alloc_new]; rfl, AnyR.int rfl⟩
  · exact ⟨_, _, rfl, by rw [add_p, World.cell?_alloc_new]; rfl, AnyR.int rfl⟩
theorem ev_numbers (e : E4) (w : World) (h : 0 ≤ e.k ∧ e.k ≤ 5) : Calls Tryd.prog 52 #[(.agg #[.int .i64 (e).k, .int .i64 (e).id, .int .i64 (e).a, .int .i64 (e).b])] w (NumP w (argsE e)) := by
  obtain ⟨k, id, a, b⟩ := e
  simp only at h
  have cf := fun w => ev_form k w h
  unfold argsE
  simp only
  have hN : ∀ (n : Nat) (W W' : World) , n ≤ 2 → Below w.heap.size w W → W' = W.alloc (.cells #[(.iface 3 (.int .i64 a)), (.iface 3 (.int .i64 b))] 20) → w.heap.size ≤ W.heap.size → NumP w ([vI a, vI b].take n) (.returned (.slice (some ⟨W.heap.size, 0, none⟩) n 2)) W' := fun n W W' hn hb hw hz => by
    subst hw
    have hl : ([vI a, vI b].take n).length = n := by simp; omega
    exact ⟨some ⟨W.heap.size, 0, none⟩, 2, by rw [hl], ⟨by omega, any_two W a b n hn⟩, hb.alloc hz _⟩
  rcases (show k = 0 ∨ k = 1 ∨ k = 2 ∨ k = 3 ∨ k = 4 ∨ k = 5 by omega) with rfl | rfl | rfl | rfl | rfl | rfl
  all_goals
    simp only [formE] at cf
    go_enter Tryd.func52, Tryd.ntmps52
    go_wp2_with (first | (go_at_call 50; (with_reducible refine (cf _).mono ?_); rintro e w1 ⟨rfl, hb1⟩; obtain ⟨hc1, hf1⟩ := bcell hb1; have hz1 := hb1.size; (try simp only [World.size_alloc, World.size_setCell, World.size_drew] at hz1)))
    go_ret
    first
      | exact hN 2 _ _ (by omega) (by (repeat (first | (with_reducible exact Below.refl _ _) | ((with_reducible refine Below.alloc ?_ ?hB _); (case hB => (first | omega | (simp; done) | (simp; omega)))) | ((with_reducible refine Below.setCell ?_ ?hB _); (case hB => (first | omega | (simp; done) | (simp; omega)))) | (with_reducible refine Below.drew ?_) | ((with_reducible refine below_ext_of ?_ ?hB); (case hB => (first | omega | (simp; done) | (simp; omega)))) | ((with_reducible refine Below.trans ?_ (Below.mono (by assumption) ?hB)); (case hB => (first | omega | (simp; done) | (simp; omega))))))) rfl (by omega)
      | exact hN 1 _ _ (by omega) (by (repeat (first | (with_reducible exact Below.refl _ _) | ((with_reducible refine Below.alloc ?_ ?hB _); (case hB => (first | omega | (simp; done) | (simp; omega)))) | ((with_reducible refine Below.setCell ?_ ?hB _); (case hB => (first | omega | (simp; done) | (simp; omega)))) | (with_reducible refine Below.drew ?_) | ((with_reducible refine below_ext_of ?_ ?hB); (case hB => (first | omega | (simp; done) | (simp; omega)))) | ((with_reducible refine Below.trans ?_ (Below.mono (by assumption) ?hB)); (case hB => (first | omega | (simp; done) | (simp; omega))))))) rfl (by omega)
      | exact hN 0 _ _ (by omega) (by (repeat (first | (with_reducible exact Below.refl _ _) | ((with_reducible refine Below.alloc ?_ ?hB _); (case hB => (first | omega | (simp; done) | (simp; omega)))) | ((with_reducible refine Below.setCell ?_ ?hB _); (case hB => (first | omega | (simp; done) | (simp; omega)))) | (with_reducible refine Below.drew ?_) | ((with_reducible refine below_ext_of ?_ ?hB); (case hB => (first | omega | (simp; done) | (simp; omega)))) | ((with_reducible refine Below.trans ?_ (Below.mono (by assumption) ?hB)); (case hB => (first | omega | (simp; done) | (simp; omega))))))) rfl (by omega)
end Go.Proofs.YtinnaiofgbjicaaDoor
