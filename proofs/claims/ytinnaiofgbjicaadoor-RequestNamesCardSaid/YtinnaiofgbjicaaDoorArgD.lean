/- The document's bytes of one argument, walked. -/
import Derived.Test.YtinnaiofgbjicaaDoorArgC
namespace Go.Proofs.YtinnaiofgbjicaaDoor
open Go.RowKit Go.Proofs.YtinnaiofgbjicaaDoorW.PrintWords
set_option linter.unusedSimpArgs false
set_option linter.unusedVariables false
set_option maxRecDepth 1000000
/-- An argument, as data. -/
structure V8 where
  kind : Int
  n : Int
  s : ByteArray
  x0 : Int
  y0 : Int
  x1 : Int
  y1 : Int
  b : List Int
/-- Its numbers are of their kinds, its texts and bytes of a size that a machine holds. -/
structure V8.Ok (x : V8) : Prop where
  kind : -9223372036854775808 ≤ x.kind ∧ x.kind ≤ 9223372036854775807
  n : -9223372036854775808 ≤ x.n ∧ x.n ≤ 9223372036854775807
  s : x.s.size ≤ 140737488351232
  x0 : -9223372036854775808 ≤ x.x0 ∧ x.x0 ≤ 9223372036854775807
  y0 : -9223372036854775808 ≤ x.y0 ∧ x.y0 ≤ 9223372036854775807
  x1 : -9223372036854775808 ≤ x.x1 ∧ x.x1 ≤ 9223372036854775807
  y1 : -9223372036854775808 ≤ x.y1 ∧ x.y1 ≤ 9223372036854775807
  b : x.b.length ≤ 140737488351232
def putOk (k : Int) (x : V8) : Bool := decide ((x.kind = 0 ∧ fitI k x.n = true) ∨ (x.kind = 1 ∧ fitS k x.s = true) ∨ (x.kind = 2 ∧ fitR k x.x0 x.y0 x.x1 x.y1 = true) ∨ (x.kind = 3 ∧ fitB k x.b.length = true))
def putB (x : V8) : List Int := if x.kind = 0 then b4 x.n else if x.kind = 1 then strB x.s else if x.kind = 2 then rectB x.x0 x.y0 x.x1 x.y1 else x.b
/-- What an argument's bytes are said to be, or that it may not be. -/
def PutPost (w : World) (k : Int) (x : V8) (e : Ending) (w' : World) : Prop := ∃ A n c, e = .returned (.tuple #[.slice A n c, .bool (putOk k x)]) ∧ (putOk k x = true → n = (putB x).length ∧ n ≤ c ∧ ReadsInt w' .u8 A n (putB x)) ∧ Below w.heap.size w w'
theorem PutPost.no {w w' : World} {k : Int} {x : V8} (h : putOk k x = false) (hb : Below w.heap.size w w') : PutPost w k x (.returned (.tuple #[.slice none 0 0, .bool false])) w' :=
  ⟨none, 0, 0, by rw [h], (fun h' => Bool.noConfusion (h.symm.trans h')), hb⟩
theorem PutPost.own {w w' : World} {k : Int} {x : V8} {base : Nat} {v : Value} {l : List Int} (h : putOk k x = true) (hl : putB x = l) (ho : w'.ownsRow base 5 1 v l.length (nums .u8 l)) (hb : Below w.heap.size w w') : PutPost w k x (.returned (.tuple #[v, .bool true])) w' := by
  obtain ⟨A, c, rfl, hr⟩ := own_reads ho
  subst hl
  exact ⟨A, _, c, by rw [h], fun _ => ⟨rfl, own_le ho, hr⟩, hb⟩
theorem PutPost.row {w w' : World} {k : Int} {x : V8} {A : Option Addr} {n c : Nat} {l : List Int} (h : putOk k x = true) (hl : putB x = l) (hn : n = l.length) (hc : n ≤ c) (hr : ReadsInt w' .u8 A n l) (hb : Below w.heap.size w w') : PutPost w k x (.returned (.tuple #[.slice A n c, .bool true])) w' := by
  subst hl
  exact ⟨A, _, c, by rw [h], fun _ => ⟨hn, hc, hr⟩, hb⟩
theorem ref_putI (x : V8) (ok : x.Ok) (A : Option Addr) (m : Nat) (w : World) (hk : x.kind = 0) (hf : smI x.n) : Calls Tryd.prog 62 #[.int .u8 105, (.agg #[.int .i64 (x.kind), .int .i64 (x.n), .string (x.s), .int .i64 (x.x0), .int .i64 (x.y0), .int .i64 (x.x1), .int .i64 (x.y1), .slice (A) (x.b.length) (m)])] w (PutPost w 105 x) := by
  have hP := Lib.hid (show putOk 105 x = true from by unfold putOk; rw [decide_eq_true_iff]; exact .inl ⟨hk, by rw [fit105, decide_eq_true hf]⟩)
  have hB := Lib.hid (show putB x = b4 x.n from by unfold putB; rw [if_pos hk])
  obtain ⟨kind, n, s, x0, y0, x1, y1, b⟩ := x
  simp only at hk hf hB ⊢
  subst hk
  obtain ⟨f0, f1⟩ := hf
  have hs := fun w => ref_small n w
  rw [decide_eq_true (show -2147483648 ≤ n ∧ n ≤ 2147483647 by omega)] at hs
  have hd := fun w => ref_digits n w (by omega)
  go_enter Tryd.func62, Tryd.ntmps62
  go_wp2_with (first | (go_at_call 91; (with_reducible refine (hs _).mono ?_); rintro e w1 ⟨rfl, rfl⟩) | (go_at_call 92; (with_reducible refine (hd _).mono ?_); rintro e w1 ⟨rfl, rfl⟩))
  go_ret2
  refine PutPost.row hP.out hB.out rfl (Nat.le_refl _) ?_ (by (repeat (first | (with_reducible exact Below.refl _ _) | ((with_reducible refine Below.alloc ?_ ?hB _); (case hB => (first | omega | (simp; done) | (simp; omega)))) | ((with_reducible refine Below.setCell ?_ ?hB _); (case hB => (first | omega | (simp; done) | (simp; omega)))) | (with_reducible refine Below.drew ?_) | ((with_reducible refine below_ext_of ?_ ?hB); (case hB => (first | omega | (simp; done) | (simp; omega)))) | ((with_reducible refine Below.trans ?_ (Below.mono (by assumption) ?hB)); (case hB => (first | omega | (simp; done) | (simp; omega)))))))
  have := reads_lit (w.alloc (.cells #[.int .i64 0, .int .i64 n, .string s, .int .i64 x0, .int .i64 y0, .int .i64 x1, .int .i64 y1, .slice A b.length m] 81)) (b4 n) (by simp [b4])
  simpa [b4] using this
theorem ref_putU (x : V8) (ok : x.Ok) (A : Option Addr) (m : Nat) (w : World) (hk : x.kind = 0) (hf : 0 ≤ x.n ∧ x.n < 4294967296) : Calls Tryd.prog 62 #[.int .u8 117, (.agg #[.int .i64 (x.kind), .int .i64 (x.n), .string (x.s), .int .i64 (x.x0), .int .i64 (x.y0), .int .i64 (x.x1), .int .i64 (x.y1), .slice (A) (x.b.length) (m)])] w (PutPost w 117 x) := by
  have hP := Lib.hid (show putOk 117 x = true from by unfold putOk fitI; rw [decide_eq_true_iff]; exact .inl ⟨hk, by rw [decide_eq_true_iff]; omega⟩)
  have hB := Lib.hid (show putB x = b4 x.n from by unfold putB; rw [if_pos hk])
  obtain ⟨kind, n, s, x0, y0, x1, y1, b⟩ := x
  simp only at hk hf hB ⊢
  subst hk
  obtain ⟨f0, f1⟩ := hf
  have hd := fun w => ref_digits n w (by omega)
  go_enter Tryd.func62, Tryd.ntmps62
  go_wp2_with (first | (go_at_call 92; (with_reducible refine (hd _).mono ?_); rintro e w1 ⟨rfl, rfl⟩))
  go_ret2
  refine PutPost.row hP.out hB.out rfl (Nat.le_refl _) ?_ (by (repeat (first | (with_reducible exact Below.refl _ _) | ((with_reducible refine Below.alloc ?_ ?hB _); (case hB => (first | omega | (simp; done) | (simp; omega)))) | ((with_reducible refine Below.setCell ?_ ?hB _); (case hB => (first | omega | (simp; done) | (simp; omega)))) | (with_reducible refine Below.drew ?_) | ((with_reducible refine below_ext_of ?_ ?hB); (case hB => (first | omega | (simp; done) | (simp; omega)))) | ((with_reducible refine Below.trans ?_ (Below.mono (by assumption) ?hB)); (case hB => (first | omega | (simp; done) | (simp; omega)))))))
  have := reads_lit (w.alloc (.cells #[.int .i64 0, .int .i64 n, .string s, .int .i64 x0, .int .i64 y0, .int .i64 x1, .int .i64 y1, .slice A b.length m] 81)) (b4 n) (by simp [b4])
  simpa [b4] using this
theorem ref_putS (x : V8) (ok : x.Ok) (A : Option Addr) (m : Nat) (w : World) (hk : x.kind = 1) (hf : x.s.size ≤ 255) : Calls Tryd.prog 62 #[.int .u8 115, (.agg #[.int .i64 (x.kind), .int .i64 (x.n), .string (x.s), .int .i64 (x.x0), .int .i64 (x.y0), .int .i64 (x.x1), .int .i64 (x.y1), .slice (A) (x.b.length) (m)])] w (PutPost w 115 x) := by
  have hP := Lib.hid (show putOk 115 x = true from by unfold putOk fitS; rw [decide_eq_true_iff]; exact .inr (.inl ⟨hk, by simp; exact hf⟩))
  have hB := Lib.hid (show putB x = [(x.s.size : Int)] ++ bytesOf x.s from by unfold putB strB; rw [if_neg (by omega), if_pos hk, Int.emod_eq_of_lt (by omega) (by omega)]; rfl)
  obtain ⟨kind, n, s, x0, y0, x1, y1, b⟩ := x
  simp only at hk hf hB ⊢
  subst hk
  have hlit := own_lit (w.alloc (.cells #[.int .i64 1, .int .i64 n, .string s, .int .i64 x0, .int .i64 y0, .int .i64 x1, .int .i64 y1, .slice A b.length m] 81)) (w.heap.size + 1) 5 .u8 [(s.size : Int)] (by simp) (by simp)
  have hbl : Below (w.heap.size + 1) (w.alloc (.cells #[.int .i64 1, .int .i64 n, .string s, .int .i64 x0, .int .i64 y0, .int .i64 x1, .int .i64 y1, .slice A b.length m] 81)) ((w.alloc (.cells #[.int .i64 1, .int .i64 n, .string s, .int .i64 x0, .int .i64 y0, .int .i64 x1, .int .i64 y1, .slice A b.length m] 81)).alloc (.cells (nums .u8 [(s.size : Int)]).toArray 5)) := Below.alloc (Below.refl _ _) (by simp) _
  simp only [nums, List.map_cons, List.map_nil, List.length_cons, List.length_nil, World.size_alloc] at hlit hbl
  have hz : (s.size : Int) ≤ 255 := by omega
  go_enter Tryd.func62, Tryd.ntmps62
  go_wp2_with (first | (at_builtin; go_must ((refine print_append_str (w0 := (w.alloc (.cells #[.int .i64 1, .int .i64 n, .string s, .int .i64 x0, .int .i64 y0, .int .i64 x1, .int .i64 y1, .slice A b.length m] 81))) (w.heap.size + 1) rfl _ _ 22 9 5 rfl Tryd.underlying22 Tryd.underlying9 info_u8 _ [(s.size : Int)] s rfl rfl hlit hbl ?_ ?_ ?_; (focus ((first | omega | (simp; done) | (simp; omega)); done)); (focus (simp; omega)); intro v2 w2 hown2 hb2 hg2))))
  go_ret2
  exact PutPost.own hP.out hB.out hown2 ((show Below w.heap.size w (w.alloc (.cells #[.int .i64 1, .int .i64 n, .string s, .int .i64 x0, .int .i64 y0, .int .i64 x1, .int .i64 y1, .slice A b.length m] 81)) from by (repeat (first | (with_reducible exact Below.refl _ _) | ((with_reducible refine Below.alloc ?_ ?hB _); (case hB => (first | omega | (simp; done) | (simp; omega)))) | ((with_reducible refine Below.setCell ?_ ?hB _); (case hB => (first | omega | (simp; done) | (simp; omega)))) | (with_reducible refine Below.drew ?_) | ((with_reducible refine below_ext_of ?_ ?hB); (case hB => (first | omega | (simp; done) | (simp; omega)))) | ((with_reducible refine Below.trans ?_ (Below.mono (by assumption) ?hB)); (case hB => (first | omega | (simp; done) | (simp; omega))))))).trans (hb2.mono (by omega)))
theorem ref_putB (x : V8) (ok : x.Ok) (A : Option Addr) (m : Nat) (w : World) (hk : x.kind = 3) (hf : x.b.length ≤ 4096) (hm : x.b.length ≤ m) (hr : ReadsInt w .u8 A x.b.length x.b) : Calls Tryd.prog 62 #[.int .u8 98, (.agg #[.int .i64 (x.kind), .int .i64 (x.n), .string (x.s), .int .i64 (x.x0), .int .i64 (x.y0), .int .i64 (x.x1), .int .i64 (x.y1), .slice (A) (x.b.length) (m)])] w (PutPost w 98 x) := by
  have hP := Lib.hid (show putOk 98 x = true from by unfold putOk fitB; rw [decide_eq_true_iff]; exact .inr (.inr (.inr ⟨hk, by simp; exact hf⟩)))
  have hB := Lib.hid (show putB x = x.b from by unfold putB; rw [if_neg (by omega), if_neg (by omega), if_neg (by omega)])
  obtain ⟨kind, n, s, x0, y0, x1, y1, b⟩ := x
  simp only at hk hf hB hr hm ⊢
  subst hk
  have hz : (b.length : Int) ≤ 4096 := by omega
  have HR := Lib.hid hr
  clear hr
  go_enter Tryd.func62, Tryd.ntmps62
  go_wp2
  go_ret2
  exact PutPost.row hP.out hB.out rfl hm (HR.out.below (by (repeat (first | (with_reducible exact Below.refl _ _) | ((with_reducible refine Below.alloc ?_ ?hB _); (case hB => (first | omega | (simp; done) | (simp; omega)))) | ((with_reducible refine Below.setCell ?_ ?hB _); (case hB => (first | omega | (simp; done) | (simp; omega)))) | (with_reducible refine Below.drew ?_) | ((with_reducible refine below_ext_of ?_ ?hB); (case hB => (first | omega | (simp; done) | (simp; omega)))) | ((with_reducible refine Below.trans ?_ (Below.mono (by assumption) ?hB)); (case hB => (first | omega | (simp; done) | (simp; omega)))))))) (by (repeat (first | (with_reducible exact Below.refl _ _) | ((with_reducible refine Below.alloc ?_ ?hB _); (case hB => (first | omega | (simp; done) | (simp; omega)))) | ((with_reducible refine Below.setCell ?_ ?hB _); (case hB => (first | omega | (simp; done) | (simp; omega)))) | (with_reducible refine Below.drew ?_) | ((with_reducible refine below_ext_of ?_ ?hB); (case hB => (first | omega | (simp; done) | (simp; omega)))) | ((with_reducible refine Below.trans ?_ (Below.mono (by assumption) ?hB)); (case hB => (first | omega | (simp; done) | (simp; omega)))))))
theorem ref_putR (x : V8) (ok : x.Ok) (A : Option Addr) (m : Nat) (w : World) (hk : x.kind = 2) (h0 : smI x.x0) (h1 : smI x.y0) (h2 : smI x.x1) (h3 : smI x.y1) : Calls Tryd.prog 62 #[.int .u8 114, (.agg #[.int .i64 (x.kind), .int .i64 (x.n), .string (x.s), .int .i64 (x.x0), .int .i64 (x.y0), .int .i64 (x.x1), .int .i64 (x.y1), .slice (A) (x.b.length) (m)])] w (PutPost w 114 x) := by
  have hP := Lib.hid (show putOk 114 x = true from by unfold putOk fitR; rw [decide_eq_true_iff]; exact .inr (.inr (.inl ⟨hk, by rw [decide_eq_true_iff]; exact ⟨rfl, h0, h1, h2, h3⟩⟩)))
  have hB := Lib.hid (show putB x = b4 x.x0 ++ b4 x.y0 ++ b4 x.x1 ++ b4 x.y1 from by unfold putB; rw [if_neg (by omega), if_neg (by omega), if_pos hk]; rfl)
  obtain ⟨kind, n, s, x0, y0, x1, y1, b⟩ := x
  simp only at hk h0 h1 h2 h3 hB ⊢
  subst hk
  obtain ⟨a0, a1⟩ := h0
  obtain ⟨b0, b1⟩ := h1
  obtain ⟨c0, c1⟩ := h2
  obtain ⟨d0, d1⟩ := h3
  have s0 := fun w => ref_small x0 w
  rw [decide_eq_true (show -2147483648 ≤ x0 ∧ x0 ≤ 2147483647 by omega)] at s0
  have s1 := fun w => ref_small y0 w
  rw [decide_eq_true (show -2147483648 ≤ y0 ∧ y0 ≤ 2147483647 by omega)] at s1
  have s2 := fun w => ref_small x1 w
  rw [decide_eq_true (show -2147483648 ≤ x1 ∧ x1 ≤ 2147483647 by omega)] at s2
  have s3 := fun w => ref_small y1 w
  rw [decide_eq_true (show -2147483648 ≤ y1 ∧ y1 ≤ 2147483647 by omega)] at s3
  have g0 := fun w => ref_digits x0 w (by omega)
  have g1 := fun w => ref_digits y0 w (by omega)
  have g2 := fun w => ref_digits x1 w (by omega)
  have g3 := fun w => ref_digits y1 w (by omega)
  have hlit := own_lit (w.alloc (.cells #[.int .i64 2, .int .i64 n, .string s, .int .i64 x0, .int .i64 y0, .int .i64 x1, .int .i64 y1, .slice A b.length m] 81)) (w.heap.size + 1) 5 .u8 (b4 x0) (by simp) (by simp [b4])
  simp only [World.size_alloc] at hlit
  go_enter Tryd.func62, Tryd.ntmps62
  go_wp2_with (first | (go_at_call 91; (with_reducible refine (s0 _).mono ?_); rintro e w1 ⟨rfl, rfl⟩) | (go_at_call 91; (with_reducible refine (s1 _).mono ?_); rintro e w1 ⟨rfl, rfl⟩) | (go_at_call 91; (with_reducible refine (s2 _).mono ?_); rintro e w1 ⟨rfl, rfl⟩) | (go_at_call 91; (with_reducible refine (s3 _).mono ?_); rintro e w1 ⟨rfl, rfl⟩) | (go_at_call 92; (with_reducible refine (g0 _).mono ?_); rintro e w1 ⟨rfl, rfl⟩))
  go_wp2_with (first | (go_at_call 92; (with_reducible refine (g1 _).mono ?_); rintro e w1 ⟨rfl, rfl⟩) | (at_builtin; refine append_lit (w0 := (w.alloc (.cells #[.int .i64 2, .int .i64 n, .string s, .int .i64 x0, .int .i64 y0, .int .i64 x1, .int .i64 y1, .slice A b.length m] 81))) (w.heap.size + 1) rfl rfl _ (b4 x0) (b4 y0) rfl ?_ (pw_own_below hlit ?_) ?_ ?_ ?_ ?_; (focus (first | (go_simp; done) | (go_simp; rfl))); (focus ((repeat (first | (with_reducible exact Below.refl _ _) | ((with_reducible refine Below.alloc ?_ ?hB _); (case hB => (first | omega | (simp; done) | (simp; omega)))) | ((with_reducible refine Below.setCell ?_ ?hB _); (case hB => (first | omega | (simp; done) | (simp; omega)))) | (with_reducible refine Below.drew ?_) | ((with_reducible refine below_ext_of ?_ ?hB); (case hB => (first | omega | (simp; done) | (simp; omega)))) | ((with_reducible refine Below.trans ?_ (Below.mono (by assumption) ?hB)); (case hB => (first | omega | (simp; done) | (simp; omega)))))); done)); (focus ((repeat (first | (with_reducible exact Below.refl _ _) | ((with_reducible refine Below.alloc ?_ ?hB _); (case hB => (first | omega | (simp; done) | (simp; omega)))) | ((with_reducible refine Below.setCell ?_ ?hB _); (case hB => (first | omega | (simp; done) | (simp; omega)))) | (with_reducible refine Below.drew ?_) | ((with_reducible refine below_ext_of ?_ ?hB); (case hB => (first | omega | (simp; done) | (simp; omega)))) | ((with_reducible refine Below.trans ?_ (Below.mono (by assumption) ?hB)); (case hB => (first | omega | (simp; done) | (simp; omega)))))); done)); (focus ((first | omega | (simp; done) | (simp; omega)); done)); (focus ((simp only [List.length_append, List.length_cons, List.length_nil, b4]); omega)); intro v2 w2 hown2 hb2; have hz2 := hb2.size; (try simp only [World.size_alloc, World.size_setCell, World.size_drew] at hz2); obtain ⟨hc2, hf2⟩ := bcellB hb2))
  go_wp2_with (first | (go_at_call 92; (with_reducible refine (g2 _).mono ?_); rintro e w1 ⟨rfl, rfl⟩) | (at_builtin; refine append_lit (w0 := (w.alloc (.cells #[.int .i64 2, .int .i64 n, .string s, .int .i64 x0, .int .i64 y0, .int .i64 x1, .int .i64 y1, .slice A b.length m] 81))) (w.heap.size + 1) rfl rfl _ (b4 x0 ++ b4 y0) (b4 x1) rfl ?_ (pw_own_below hown2 ?_) ?_ ?_ ?_ ?_; (focus (first | (go_simp; done) | (go_simp; rfl))); (focus ((repeat (first | (with_reducible exact Below.refl _ _) | ((with_reducible refine Below.alloc ?_ ?hB _); (case hB => (first | omega | (simp; done) | (simp; omega)))) | ((with_reducible refine Below.setCell ?_ ?hB _); (case hB => (first | omega | (simp; done) | (simp; omega)))) | (with_reducible refine Below.drew ?_) | ((with_reducible refine below_ext_of ?_ ?hB); (case hB => (first | omega | (simp; done) | (simp; omega)))) | ((with_reducible refine Below.trans ?_ (Below.mono (by assumption) ?hB)); (case hB => (first | omega | (simp; done) | (simp; omega)))))); done)); (focus ((repeat (first | (with_reducible exact Below.refl _ _) | ((with_reducible refine Below.alloc ?_ ?hB _); (case hB => (first | omega | (simp; done) | (simp; omega)))) | ((with_reducible refine Below.setCell ?_ ?hB _); (case hB => (first | omega | (simp; done) | (simp; omega)))) | (with_reducible refine Below.drew ?_) | ((with_reducible refine below_ext_of ?_ ?hB); (case hB => (first | omega | (simp; done) | (simp; omega)))) | ((with_reducible refine Below.trans ?_ (Below.mono (by assumption) ?hB)); (case hB => (first | omega | (simp; done) | (simp; omega)))))); done)); (focus ((first | omega | (simp; done) | (simp; omega)); done)); (focus ((simp only [List.length_append, List.length_cons, List.length_nil, b4]); omega)); intro v3 w3 hown3 hb3; have hz3 := hb3.size; (try simp only [World.size_alloc, World.size_setCell, World.size_drew] at hz3); obtain ⟨hc3, hf3⟩ := bcellB hb3))
  go_wp2_with (first | (go_at_call 92; (with_reducible refine (g3 _).mono ?_); rintro e w1 ⟨rfl, rfl⟩) | (at_builtin; refine append_lit (w0 := (w.alloc (.cells #[.int .i64 2, .int .i64 n, .string s, .int .i64 x0, .int .i64 y0, .int .i64 x1, .int .i64 y1, .slice A b.length m] 81))) (w.heap.size + 1) rfl rfl _ (b4 x0 ++ b4 y0 ++ b4 x1) (b4 y1) rfl ?_ (pw_own_below hown3 ?_) ?_ ?_ ?_ ?_; (focus (first | (go_simp; done) | (go_simp; rfl))); (focus ((repeat (first | (with_reducible exact Below.refl _ _) | ((with_reducible refine Below.alloc ?_ ?hB _); (case hB => (first | omega | (simp; done) | (simp; omega)))) | ((with_reducible refine Below.setCell ?_ ?hB _); (case hB => (first | omega | (simp; done) | (simp; omega)))) | (with_reducible refine Below.drew ?_) | ((with_reducible refine below_ext_of ?_ ?hB); (case hB => (first | omega | (simp; done) | (simp; omega)))) | ((with_reducible refine Below.trans ?_ (Below.mono (by assumption) ?hB)); (case hB => (first | omega | (simp; done) | (simp; omega)))))); done)); (focus ((repeat (first | (with_reducible exact Below.refl _ _) | ((with_reducible refine Below.alloc ?_ ?hB _); (case hB => (first | omega | (simp; done) | (simp; omega)))) | ((with_reducible refine Below.setCell ?_ ?hB _); (case hB => (first | omega | (simp; done) | (simp; omega)))) | (with_reducible refine Below.drew ?_) | ((with_reducible refine below_ext_of ?_ ?hB); (case hB => (first | omega | (simp; done) | (simp; omega)))) | ((with_reducible refine Below.trans ?_ (Below.mono (by assumption) ?hB)); (case hB => (first | omega | (simp; done) | (simp; omega)))))); done)); (focus ((first | omega | (simp; done) | (simp; omega)); done)); (focus ((simp only [List.length_append, List.length_cons, List.length_nil, b4]); omega)); intro v4 w4 hown4 hb4; have hz4 := hb4.size; (try simp only [World.size_alloc, World.size_setCell, World.size_drew] at hz4); obtain ⟨hc4, hf4⟩ := bcellB hb4))
  go_ret2
  exact PutPost.own hP.out hB.out hown4 ((show Below w.heap.size w (w.alloc (.cells #[.int .i64 2, .int .i64 n, .string s, .int .i64 x0, .int .i64 y0, .int .i64 x1, .int .i64 y1, .slice A b.length m] 81)) from by (repeat (first | (with_reducible exact Below.refl _ _) | ((with_reducible refine Below.alloc ?_ ?hB _); (case hB => (first | omega | (simp; done) | (simp; omega)))) | ((with_reducible refine Below.setCell ?_ ?hB _); (case hB => (first | omega | (simp; done) | (simp; omega)))) | (with_reducible refine Below.drew ?_) | ((with_reducible refine below_ext_of ?_ ?hB); (case hB => (first | omega | (simp; done) | (simp; omega)))) | ((with_reducible refine Below.trans ?_ (Below.mono (by assumption) ?hB)); (case hB => (first | omega | (simp; done) | (simp; omega))))))).trans (hb4.mono (by omega)))
end Go.Proofs.YtinnaiofgbjicaaDoor
