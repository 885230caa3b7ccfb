/- Rows of arguments of the call's own; the first arguments, cut short, walked. -/
import Derived.Test.YtinnaiofgbjicaaDoorArgH
namespace Go.Proofs.YtinnaiofgbjicaaDoor
open Go.RowKit Go.Proofs.YtinnaiofgbjicaaDoorW.PrintWords
set_option linter.unusedSimpArgs false
set_option linter.unusedVariables false
set_option maxRecDepth 1000000
/-- An argument, and where its bytes lie. -/
structure VH where
  x : V8
  A : Option Addr
  m : Nat
def VH.cells (h : VH) : List Value := [.int .i64 h.x.kind, .int .i64 h.x.n, .string h.x.s, .int .i64 h.x.x0, .int .i64 h.x.y0, .int .i64 h.x.x1, .int .i64 h.x.y1, .slice h.A h.x.b.length h.m]
def VH.reads (w : World) (h : VH) : Prop := h.x.b.length ≤ h.m ∧ ReadsInt w .u8 h.A h.x.b.length h.x.b
def flatV (L : List VH) : List Value := L.flatMap VH.cells
theorem flatV_len (L : List VH) : (flatV L).length = L.length * 8 := by
  induction L with
  | nil => rfl
  | cons h L ih => simp only [flatV, List.flatMap_cons, List.length_append, List.length_cons] at *; simp only [VH.cells, List.length_cons, List.length_nil]; omega
theorem flatV_get (L : List VH) (i j : Nat) (hi : i < L.length) (hj : j < 8) : (flatV L)[i * 8 + j]? = (L[i].cells)[j]? := by
  induction L generalizing i with
  | nil => simp at hi
  | cons h L ih =>
    have hl : h.cells.length = 8 := rfl
    show (h.cells ++ flatV L)[i * 8 + j]? = _
    cases i with
    | zero => simp only [Nat.zero_mul, Nat.zero_add, List.getElem_cons_zero]; rw [List.getElem?_append_left (by omega)]
    | succ i =>
      rw [List.getElem?_append_right (by omega), show (i + 1) * 8 + j - h.cells.length = i * 8 + j by omega]
      exact ih i (by simpa using hi)
/-- A row of arguments of the call's own; their bytes lie in an elder world. -/
def OwnV (wq w : World) (base : Nat) (v : Value) (l : List V8) : Prop := ∃ L : List VH, L.map (·.x) = l ∧ w.ownsRow base 81 8 v L.length (flatV L) ∧ ∀ h ∈ L, h.reads wq
theorem OwnV.nil (wq w : World) (base : Nat) : OwnV wq w base (.slice none 0 0) [] := ⟨[], rfl, own_nil _ _ _ _, fun h hh => by cases hh⟩
theorem OwnV.below {wq w w1 : World} {base : Nat} {v : Value} {l : List V8} (h : OwnV wq w base v l) (hb : Below w.heap.size w w1) : OwnV wq w1 base v l := by
  obtain ⟨L, h0, h1, h2⟩ := h
  exact ⟨L, h0, pw_own_below h1 hb, h2⟩
theorem add_p (g j : Nat) : (⟨g, 0, none⟩ : Addr).add j = ⟨g, j, none⟩ := by unfold Addr.add; split <;> simp_all
theorem OwnV.row {wq w : World} {base : Nat} {v : Value} {l : List V8} (h : OwnV wq w base v l) (hb : Below wq.heap.size wq w) : ∃ A c, v = .slice A l.length c ∧ l.length ≤ c ∧ VRow w A l := by
  obtain ⟨L, rfl, h1, h2⟩ := h
  obtain ⟨A, c, rfl⟩ := own_slice h1
  refine ⟨A, c, by simp, by have := own_le h1; simpa using this, fun i hi => ?_⟩
  have hi' : i < L.length := by simpa using hi
  obtain ⟨g, cap, e, _⟩ := h1.form (by omega)
  injection e with e1 e2 e3
  subst e1
  have hx : at8 (L.map (·.x)) i = L[i].x := by unfold at8; rw [List.getD_eq_getElem?_getD, List.getElem?_eq_getElem (by simpa using hi')]; simp
  have key : ∀ j u, j < 8 → (L[i].cells)[j]? = some u → w.cell? ⟨g, i * 8 + j, none⟩ = some u := fun j u hj hu => by
    have := h1.cells (g := g) rfl (i * 8 + j) u (by rw [flatV_get L i j hi' hj]; exact hu)
    rwa [add_p] at this
  have hr := h2 L[i] (List.getElem_mem _)
  rw [hx]
  refine ⟨_, L[i].A, L[i].m, rfl, ?_, ?_, ?_, ?_, ?_, ?_, ?_, ?_, hr.1, hr.2.below hb⟩
  · rw [add_p]; exact key 0 _ (by omega) rfl
  · rw [add_p]; exact key 1 _ (by omega) rfl
  · rw [add_p]; exact key 2 _ (by omega) rfl
  · rw [add_p]; exact key 3 _ (by omega) rfl
  · rw [add_p]; exact key 4 _ (by omega) rfl
  · rw [add_p]; exact key 5 _ (by omega) rfl
  · rw [add_p]; exact key 6 _ (by omega) rfl
  · rw [add_p]; exact key 7 _ (by omega) rfl
theorem OwnV.snoc {wq w : World} {base : Nat} {v : Value} {L : List VH} {l : List V8} (hv : VH) (h : w.ownsRow base 81 8 v (L.length + 1) (flatV L ++ hv.cells)) (hl : L.map (·.x) = l) (h2 : ∀ h ∈ L, h.reads wq) (hr : hv.reads wq) : OwnV wq w base v (l ++ [hv.x]) := by
  refine ⟨L ++ [hv], by simp [hl], ?_, fun h hh => ?_⟩
  · have e : flatV (L ++ [hv]) = flatV L ++ hv.cells := by simp [flatV]
    rw [e]; simpa using h
  · rcases List.mem_append.1 hh with hh | hh
    · exact h2 h hh
    · rw [List.mem_singleton.1 hh]; exact hr
theorem OwnV.row_n {wq w : World} {base : Nat} {v : Value} {l : List V8} (h : OwnV wq w base v l) : ∃ L : List VH, L.map (·.x) = l ∧ L.length = l.length ∧ w.ownsRow base 81 8 v L.length (flatV L) ∧ ∀ h ∈ L, h.reads wq := by
  obtain ⟨L, h0, h1, h2⟩ := h
  exact ⟨L, h0, by rw [← h0]; simp, h1, h2⟩
theorem info_v : (Tryd.prog.info? 81).map (fun i => (i.zero, i.size, i.bytes)) = some (some (.agg #[.int .i64 0, .int .i64 0, .string ⟨#[]⟩, .int .i64 0, .int .i64 0, .int .i64 0, .int .i64 0, .slice none 0 0]), 8, 88) := by kernel_rfl
def fewX (x : V8) : V8 := { x with s := x.s.extract 0 (min x.s.size 300), b := x.b.take (min x.b.length 300) }
def fewL (l : List V8) : List V8 := (l.take 10).map fewX
theorem fewL_len (l : List V8) : (fewL l).length = min 10 l.length := by simp [fewL]
theorem take_at8 (l : List V8) (k : Nat) (h : k < l.length) : l.take (k + 1) = l.take k ++ [at8 l k] := by
  rw [List.take_succ_eq_append_getElem h]; unfold at8; rw [List.getD_eq_getElem?_getD, List.getElem?_eq_getElem h]; rfl
end Go.Proofs.YtinnaiofgbjicaaDoor
namespace Go.Proofs.YtinnaiofgbjicaaDoor
open Go.RowKit Go.Proofs.YtinnaiofgbjicaaDoorW.PrintWords
set_option linter.unusedSimpArgs false
set_option linter.unusedVariables false
set_option maxRecDepth 1000000
def lcode (s : ByteArray) (i : Nat) : Nat := if (byN s i).toNat % 5 = 4 ∧ i + 1 < min s.size 8 then 3 else (byN s i).toNat % 5
def ltS (c : Nat) : ByteArray := ByteArray.extract { data := #[105, 117, 115, 114, 98] } c (c + 1)
def lettersS (s : ByteArray) : Nat → ByteArray
  | 0 => { data := #[] }
  | k + 1 => lettersS s k ++ ltS (lcode s k)
theorem lcode_lt (s : ByteArray) (i : Nat) : lcode s i < 5 := by unfold lcode; split <;> omega
theorem ltS_size (c : Nat) (h : c < 5) : (ltS c).size = 1 := by
  have : ∀ c : Fin 5, (ltS c.val).size = 1 := by decide +kernel
  exact this ⟨c, h⟩
theorem lettersS_size (s : ByteArray) (k : Nat) : (lettersS s k).size = k := by
  induction k with
  | zero => rfl
  | succ k ih => simp only [lettersS]; rw [ByteArray.size_append, ih, ltS_size _ (lcode_lt s k)]
theorem ltS_def (c : Nat) : ByteArray.extract { data := #[105, 117, 115, 114, 98] } c (c + 1) = ltS c := rfl
theorem lettersS_succ (s : ByteArray) (k : Nat) : lettersS s (k + 1) = lettersS s k ++ ltS (lcode s k) := rfl
attribute [irreducible] ltS lettersS
def lettersP (s : ByteArray) : ByteArray := lettersS s (min s.size 8)
end Go.Proofs.YtinnaiofgbjicaaDoor
namespace Go.Proofs.YtinnaiofgbjicaaDoor
open Go.RowKit Go.Proofs.YtinnaiofgbjicaaDoorW.PrintWords
set_option linter.unusedSimpArgs false
set_option linter.unusedVariables false
set_option maxRecDepth 1000000
theorem reads_nilK (w : World) (A : Option Addr) : ReadsInt w .u8 A 0 [] := ⟨rfl, by omega, fun h => by omega⟩
theorem cell_al {w : World} {p : Addr} {v : Value} (h : w.cell? p = some v) (o : Obj) : (w.alloc o).cell? p = some v := pw_cell_below ((Below.refl _ _).alloc (Nat.le_refl _) o) h
def tm (n : Int) : Int := Int.tmod n 2147483648
theorem tm_bd (n : Int) : -2147483648 < tm n ∧ tm n < 2147483648 := by
  unfold tm
  have h1 := Int.tmod_lt_of_pos n (show (0 : Int) < 2147483648 by omega)
  by_cases h : 0 ≤ n
  · have := Int.tmod_nonneg 2147483648 h; omega
  · have := Int.tmod_nonneg 2147483648 (show 0 ≤ -n by omega)
    have h3 := Int.tmod_lt_of_pos (-n) (show (0 : Int) < 2147483648 by omega)
    rw [Int.neg_tmod] at this h3; omega
def goodX (c : Int) (x : V8) : V8 :=
  if c = 105 then { v0 with n := tm x.n }
  else if c = 117 then { v0 with n := max (tm x.n) (-tm x.n) }
  else if c = 115 then { v0 with kind := 1, s := x.s.extract 0 (min x.s.size 20) }
  else if c = 114 then { v0 with kind := 2, x0 := tm x.x0, y0 := tm x.y0, x1 := tm x.x1, y1 := tm x.y1 }
  else { v0 with kind := 3, b := x.b.take (min x.b.length 20) }
def goodN (f : ByteArray) (l : List V8) (k : Nat) : List V8 := (List.range k).map fun i => goodX (byN f i) (at8 l i)
def goodL (f : ByteArray) (l : List V8) : List V8 := goodN f l f.size
theorem goodN_succ (f : ByteArray) (l : List V8) (k : Nat) : goodN f l (k + 1) = goodN f l k ++ [goodX (byN f k) (at8 l k)] := by
  unfold goodN; rw [List.range_succ, List.map_append]; rfl
theorem goodN_len (f : ByteArray) (l : List V8) (k : Nat) : (goodN f l k).length = k := by simp [goodN]
theorem at8_out (l : List V8) (k : Nat) (h : ¬ k < l.length) : at8 l k = v0 := by
  unfold at8; rw [List.getD_eq_getElem?_getD, List.getElem?_eq_none (by omega)]; rfl
end Go.Proofs.YtinnaiofgbjicaaDoor
namespace Go.Proofs.YtinnaiofgbjicaaDoor
open Go.RowKit Go.Proofs.YtinnaiofgbjicaaDoorW.PrintWords
set_option linter.unusedSimpArgs false
set_option linter.unusedVariables false
set_option maxRecDepth 1000000
theorem own_empty (W : World) (base : Nat) (h : base ≤ W.heap.size) : (W.alloc (.cells #[] 5)).ownsRow base 5 1 (.slice (some ⟨W.heap.size, 0, none⟩) 0 0) ([] : List Int).length (nums .u8 []) := by
  have := own_lit W base 5 .u8 [] h (by simp)
  simpa [nums] using this
def CloneP (w : World) (xs : List Int) (e : Ending) (w' : World) : Prop := ∃ v, e = .returned v ∧ w'.ownsRow w.heap.size 5 1 v xs.length (nums .u8 xs) ∧ Below w.heap.size w w'
theorem sl_Clone (A : Option Addr) (n c : Nat) (xs : List Int) (w : World) (hn : n ≤ 100000000) (hr : ReadsInt w .u8 A n xs) : Calls Tryd.prog 104 #[.slice A n c] w (CloneP w xs) := by
  cases A with
  | none =>
    have hx : xs = [] := by
      rcases Nat.eq_zero_or_pos n with h | h
      · subst h; exact List.eq_nil_of_length_eq_zero hr.1
      · obtain ⟨ad, h1, _⟩ := hr.2.2 h; cases h1
    subst hx
    have he : ∀ w, (binOp .eql 22 (.slice none n c) (.slice none 0 0)).run Tryd.prog w = .ok (.bool true) w := fun w => by kernel_rfl
    go_enter Tryd.func104, Tryd.ntmps104
    go_wp2
    go_ret
    exact ⟨_, rfl, own_nilB _ _, Below.refl _ _⟩
  | some ad =>
    have he : ∀ w, (binOp .eql 22 (.slice (some ad) n c) (.slice none 0 0)).run Tryd.prog w = .ok (.bool false) w := fun w => by kernel_rfl
    have hxl := hr.1
    have HX := Lib.hid hxl
    have HR := Lib.hid hr
    clear hxl hr
    go_enter Tryd.func104, Tryd.ntmps104
    go_wp2_with (first | (at_builtin; refine print_append_row (w0 := w) (w.heap.size) rfl _ _ 22 5 .u8 1 rfl Tryd.underlying22 info_u8 (by decide) _ ([]) (xs) _ _ _ rfl rfl (pw_own_below (own_empty w w.heap.size (Nat.le_refl _)) ?_) (ReadsInt.below HR.out ?_) ?_ ?_ ?_ ?_; (focus ((repeat (first | (with_reducible exact Below.refl _ _) | ((with_reducible refine Below.alloc ?_ ?hB _); (case hB => (first | omega | (simp; done) | (simp; omega)))) | ((with_reducible refine Below.setCell ?_ ?hB _); (case hB => (first | omega | (simp; done) | (simp; omega)))) | (with_reducible refine Below.drew ?_) | ((with_reducible refine below_ext_of ?_ ?hB); (case hB => (first | omega | (simp; done) | (simp; omega)))) | ((with_reducible refine Below.trans ?_ (Below.mono (by assumption) ?hB)); (case hB => (first | omega | (simp; done) | (simp; omega)))))); done)); (focus ((repeat (first | (with_reducible exact Below.refl _ _) | ((with_reducible refine Below.alloc ?_ ?hB _); (case hB => (first | omega | (simp; done) | (simp; omega)))) | ((with_reducible refine Below.setCell ?_ ?hB _); (case hB => (first | omega | (simp; done) | (simp; omega)))) | (with_reducible refine Below.drew ?_) | ((with_reducible refine below_ext_of ?_ ?hB); (case hB => (first | omega | (simp; done) | (simp; omega)))) | ((with_reducible refine Below.trans ?_ (Below.mono (by assumption) ?hB)); (case hB => (first | omega | (simp; done) | (simp; omega)))))); done)); (focus ((repeat (first | (with_reducible exact Below.refl _ _) | ((with_reducible refine Below.alloc ?_ ?hB _); (case hB => (first | omega | (simp; done) | (simp; omega)))) | ((with_reducible refine Below.setCell ?_ ?hB _); (case hB => (first | omega | (simp; done) | (simp; omega)))) | (with_reducible refine Below.drew ?_) | ((with_reducible refine below_ext_of ?_ ?hB); (case hB => (first | omega | (simp; done) | (simp; omega)))) | ((with_reducible refine Below.trans ?_ (Below.mono (by assumption) ?hB)); (case hB => (first | omega | (simp; done) | (simp; omega)))))); done)); (focus ((first | omega | (simp; done) | (simp; omega)); done)); (focus ((try simp only [List.length_append, List.length_cons, List.length_nil]); omega)); intro v2 w2 hown2 hb2 _ _; have hz2 := hb2.size; (try simp only [World.size_alloc, World.size_setCell, World.size_drew] at hz2); obtain ⟨hc2, hf2⟩ := bcellB hb2))
    go_ret
    exact ⟨_, rfl, hown2, hb2⟩
def isK (x : V8) (k : Int) : Bool := decide (x.kind = k)
def anyInt (x : V8) : Int := if x.kind = 0 then x.n else 0
def anyStr (x : V8) : ByteArray := if x.kind = 1 then x.s else ⟨#[]⟩
def anyB (x : V8) : List Int := if x.kind = 3 then x.b else []
theorem isK_yes {x : V8} {k : Int} (h : x.kind = k) : isK x k = true := decide_eq_true h
theorem isK_no {x : V8} {k : Int} (h : ¬ x.kind = k) : isK x k = false := decide_eq_false h
theorem args_Int (x : V8) (v : Value) (w : World) (h : AnyR w x v) : Calls Tryd.prog 53 #[v] w fun e w' => e = .returned (.tuple #[.int .i64 (anyInt x), .bool (isK x 0)]) ∧ w = w' := by
  cases h with
  | int h =>
    have H := Lib.hid (show anyInt x = x.n ∧ isK x 0 = true from ⟨by unfold anyInt; rw [if_pos h], isK_yes h⟩)
    go_enter Tryd.func53, Tryd.ntmps53
    go_wp2
    go_ret2
    exact ⟨by rw [H.out.1, H.out.2]; rfl, rfl⟩
  | str h =>
    have H := Lib.hid (show anyInt x = 0 ∧ isK x 0 = false from ⟨by unfold anyInt; rw [if_neg (by omega)], isK_no (by omega)⟩)
    go_enter Tryd.func53, Tryd.ntmps53
    go_wp2
    go_ret2
    exact ⟨by rw [H.out.1, H.out.2]; rfl, rfl⟩
  | rect h =>
    have H := Lib.hid (show anyInt x = 0 ∧ isK x 0 = false from ⟨by unfold anyInt; rw [if_neg (by omega)], isK_no (by omega)⟩)
    go_enter Tryd.func53, Tryd.ntmps53
    go_wp2
    go_ret2
    exact ⟨by rw [H.out.1, H.out.2]; rfl, rfl⟩
  | byt h A m hm hr =>
    have H := Lib.hid (show anyInt x = 0 ∧ isK x 0 = false from ⟨by unfold anyInt; rw [if_neg (by omega)], isK_no (by omega)⟩)
    clear hr
    go_enter Tryd.func53, Tryd.ntmps53
    go_wp2
    go_ret2
    exact ⟨by rw [H.out.1, H.out.2]; rfl, rfl⟩
  | oth h =>
    have H := Lib.hid (show anyInt x = 0 ∧ isK x 0 = false from ⟨by unfold anyInt; rw [if_neg (by omega)], isK_no (by omega)⟩)
    clear h
    go_enter Tryd.func53, Tryd.ntmps53
    go_wp2
    go_ret2
    exact ⟨by rw [H.out.1, H.out.2]; rfl, rfl⟩
def anyX (x : V8) (n : Int) : Int := if x.kind = 2 then n else 0
theorem anyX_yes {x : V8} (h : x.kind = 2) (n : Int) : anyX x n = n := by unfold anyX; rw [if_pos h]
theorem anyX_no {x : V8} (h : ¬ x.kind = 2) (n : Int) : anyX x n = 0 := by unfold anyX; rw [if_neg h]
def RectP (w : World) (x : V8) (e : Ending) (w' : World) : Prop := e = .returned (.tuple #[(.agg #[.int .i64 (anyX x x.x0), .int .i64 (anyX x x.y0), .int .i64 (anyX x x.x1), .int .i64 (anyX x x.y1)]), .bool (isK x 2)]) ∧ Below w.heap.size w w'
def BytesP (w : World) (x : V8) (e : Ending) (w' : World) : Prop := ∃ v, e = .returned (.tuple #[v, .bool (isK x 3)]) ∧ w'.ownsRow w.heap.size 5 1 v (anyB x).length (nums .u8 (anyB x)) ∧ Below w.heap.size w w'
end Go.Proofs.YtinnaiofgbjicaaDoor
namespace Go.Proofs.YtinnaiofgbjicaaDoor
open Go.RowKit Go.Proofs.YtinnaiofgbjicaaDoorW.PrintWords
set_option linter.unusedSimpArgs false
set_option linter.unusedVariables false
set_option maxRecDepth 1000000
def lf : ByteArray := { data := #[105, 115] }
def ll : List V8 := [{ v0 with n := -1 }, { v0 with kind := 1, s := { data := #[97] } }]
theorem lives_pack : packP lf ll = (0, [255, 255, 255, 255, 1, 97]) := by decide +kernel
theorem str_reads {w : World} {A : Option Addr} {n c : Nat} {xs : List Int} (h : ReadsInt w .u8 A n xs) : (convert 22 9 (.slice A n c)).run Tryd.prog w = .ok (.string (strOfNums xs)) w :=
  string_of_reads Tryd.underlying22 Tryd.underlying5 Tryd.underlying9 h
def LivesP (w : World) (e : Ending) (w' : World) : Prop := ∃ A c, e = .returned (.tuple #[.slice A 6 c, .int .i64 0]) ∧ ReadsInt w' .u8 A 6 [255, 255, 255, 255, 1, 97] ∧ Below w.heap.size w w'
theorem lives_call (w : World) : Calls Tryd.prog 58 #[.string { data := #[105, 115] }, .slice (some ⟨w.heap.size, 0, none⟩) 2 2] (w.alloc (.cells #[(.iface 3 (.int .i64 (-1))), (.iface 9 (.string { data := #[97] }))] 20)) (LivesP (w.alloc (.cells #[(.iface 3 (.int .i64 (-1))), (.iface 9 (.string { data := #[97] }))] 20))) := by
  have h := args_Pack lf (some ⟨w.heap.size, 0, none⟩) ll 2 (w.alloc (.cells #[(.iface 3 (.int .i64 (-1))), (.iface 9 (.string { data := #[97] }))] 20)) (Nat.le_refl _) (by decide) ?_ ?_
  · refine h.mono fun e w' ⟨A, n, c, he, hn, hc, hr, hb⟩ => ?_
    rw [lives_pack] at he hn hr
    simp only [List.length_cons, List.length_nil] at hn
    subst hn
    exact ⟨A, c, he, hr, hb⟩
  · intro i hi
    have hi' : i = 0 ∨ i = 1 := by simp only [ll, List.length_cons, List.length_nil] at hi; omega
    rcases hi' with rfl | rfl
    · exact ⟨by decide, by decide, by decide, by decide, by decide, by decide, by decide, by decide⟩
    · exact ⟨by decide, by decide, by decide, by decide, by decide, by decide, by decide, by decide⟩
  · intro i hi
    have hi' : i = 0 ∨ i = 1 := by simp only [ll, List.length_cons, List.length_nil] at hi; omega
    rcases hi' with rfl | rfl
    · exact ⟨_, _, rfl, by rw [add_p, World.cell?_alloc_new]; rfl, AnyR.int rfl⟩
    · exact ⟨_, _, rfl, by rw [add_p, World.cell?_alloc_new]; rfl, AnyR.str rfl⟩
theorem lives_str : strOfNums [255, 255, 255, 255, 1, 97] = { data := #[255, 255, 255, 255, 1, 97] } := by decide +kernel
end Go.Proofs.YtinnaiofgbjicaaDoor
