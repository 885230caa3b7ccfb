/- Sameness of rows of events; the number round a ring: walked. -/
import Derived.Test.YtinnaiofgbjicaaDoorEvA
import Derived.Test.YtinnaiofgbjicaaDoorEvH
import Derived.Test.YtinnaiofgbjicaaDoorShC
import Derived.Test.YtinnaiofgbjicaaDoorShD
import Derived.Test.YtinnaiofgbjicaaDoorShE
namespace Go.Proofs.YtinnaiofgbjicaaDoor
open Go.RowKit Go.Proofs.YtinnaiofgbjicaaDoorW.PrintWords
set_option linter.unusedSimpArgs false
set_option linter.unusedVariables false
set_option maxRecDepth 1000000
def eEq (a b c d p q r s : Int) : Bool := decide (a = p ∧ b = q ∧ c = r ∧ d = s)
theorem eqE (d : Nat) (w : World) (x0 x1 x2 x3 y0 y1 y2 y3 : Int) : (Op.equalIn (d + 2) 51 (.agg #[.int .i64 (x0), .int .i64 (x1), .int .i64 (x2), .int .i64 (x3)]) (.agg #[.int .i64 (y0), .int .i64 (y1), .int .i64 (y2), .int .i64 (y3)])).run Tryd.prog w = .ok (eEq x0 x1 x2 x3 y0 y1 y2 y3) w := by
  have e : eEq x0 x1 x2 x3 y0 y1 y2 y3 = (x0 == y0 && (x1 == y1 && (x2 == y2 && (x3 == y3 && true)))) := by
    rw [Bool.eq_iff_iff]; simp [eEq]
  rw [e]
  refine eqA_of Tryd.underlying51 (by kernel_rfl) ?_
  refine eqf_cons (by rfl) (by go_simp; rfl) (by go_simp; rfl) (by go_simp) ?_
  refine eqf_cons (by rfl) (by go_simp; rfl) (by go_simp; rfl) (by go_simp) ?_
  refine eqf_cons (by rfl) (by go_simp; rfl) (by go_simp; rfl) (by go_simp) ?_
  refine eqf_cons (by rfl) (by go_simp; rfl) (by go_simp; rfl) (by go_simp) ?_
  exact eqf_nil
attribute [local go_sem high] eqE
theorem eEq_iff (x y : E4) : eEq x.k x.id x.a x.b y.k y.id y.a y.b = decide (x = y) := by
  cases x; cases y; simp [eEq]
theorem same_all {l m : List E4} (h : l.length = m.length) (hs : ∀ i, i < l.length → atE l i = atE m i) : l = m := List.ext_getElem h fun i h1 h2 => by
  have := hs i h1
  rwa [atE_get h1, atE_get h2] at this
def around (n m : Int) : Int := (if n < 0 then -(n + 1) else n) % m
theorem around_neg (n m : Int) (h : n < 0) : -(n + 1).tmod m = around n m := by
  simp only [around, if_pos h]
  rw [← Int.neg_tmod, Int.tmod_eq_emod_of_nonneg (by omega)]
theorem around_pos (n m : Int) (h : 0 ≤ n) : n % m = around n m := by
  simp only [around, if_neg (show ¬ n < 0 by omega)]
theorem around_bd (n m : Int) (hm : 0 < m) : 0 ≤ around n m ∧ around n m ≤ m - 1 := by
  have h1 := Int.emod_nonneg (if n < 0 then -(n + 1) else n) (show m ≠ 0 by omega)
  have h2 := Int.emod_lt_of_pos (if n < 0 then -(n + 1) else n) hm
  unfold around; omega
theorem ref_Around (n m : Int) (w : World) (h1 : -9223372036854775808 ≤ n) (h2 : n ≤ 9223372036854775807) (h3 : 0 < m) (h4 : m ≤ 9223372036854775807) : Calls Tryd.prog 14 #[.int .i64 n, .int .i64 m] w fun e w' => e = .returned (.int .i64 (around n m)) ∧ w = w' := by
  have e1 := Lib.hid (fun h : n < 0 => around_neg n m h)
  have e2 := Lib.hid (fun h : 0 ≤ n => around_pos n m h)
  go_enter Tryd.func14, Tryd.ntmps14
  go_wp2
  all_goals (go_ret; refine ⟨?_, rfl⟩; first | exact congrArg (fun x => Ending.returned (.int .i64 x)) (e1.out ‹_›) | exact congrArg (fun x => Ending.returned (.int .i64 x)) (e2.out ‹_›))
end Go.Proofs.YtinnaiofgbjicaaDoor
namespace Go.Proofs.YtinnaiofgbjicaaDoor
open Go.RowKit Go.Proofs.YtinnaiofgbjicaaDoorW.PrintWords
set_option linter.unusedSimpArgs false
set_option linter.unusedVariables false
set_option maxRecDepth 1000000
def mayT (e : E4) : Prop := (0 ≤ e.k ∧ e.k ≤ 5) ∧ (0 ≤ e.id ∧ e.id ≤ 4294967295) ∧ ((e.k = 0 ∨ e.k = 3) → (0 ≤ e.a ∧ e.a ≤ 4294967295) ∧ (0 ≤ e.b ∧ e.b ≤ 4294967295)) ∧ (e.k = 1 → (0 ≤ e.a ∧ e.a ≤ 4294967295) ∧ e.b = 0) ∧ ((e.k = 2 ∨ e.k = 5) → e.a = 0 ∧ e.b = 0) ∧
  (e.k = 4 → (-2147483648 ≤ e.a ∧ e.a ≤ 2147483647) ∧ (-2147483648 ≤ e.b ∧ e.b ≤ 2147483647)) ∧ (e.k ≤ 1 → 1 ≤ e.a ∧ e.a ≤ 12 ∧ e.b ≤ 255)
theorem packFrom_all {f : ByteArray} {l : List V8} : ∀ (k : Nat) (b : List Int), packFrom f l k = some b → ∀ i, i < k → putOk (byN f i) (at8 l i) = true
  | 0, b, _, i, hi => by omega
  | k + 1, b, h, i, hi => by
    unfold packFrom at h
    split at h
    · cases h
    · rename_i b1 h1
      split at h
      · rename_i h2
        by_cases e : i = k
        · subst e; exact h2
        · exact packFrom_all k b1 h1 i (by omega)
      · cases h
theorem pack_all {f : ByteArray} {l : List V8} {b : List Int} (h : packP f l = (0, b)) : ∀ i, i < f.size → putOk (byN f i) (at8 l i) = true := by
  unfold packP at h
  split at h
  · rename_i hf
    split at h
    · injection h with h; omega
    · rename_i b1 h1; intro i hi; exact packFrom_all _ _ h1 i (by omega)
  · injection h with h; omega
theorem putOk_n {c : Int} {n : Int} (h : putOk c (vI n) = true) : (c = 105 ∧ -2147483648 ≤ n ∧ n ≤ 2147483647) ∨ (c = 117 ∧ 0 ≤ n ∧ n ≤ 4294967295) := by
  unfold putOk at h
  rcases of_decide_eq_true h with ⟨_, h⟩ | ⟨h, _⟩ | ⟨h, _⟩ | ⟨h, _⟩
  · have h := of_decide_eq_true h
    simp only [vI] at h
    omega
  · exact absurd h (by show ¬ (0 : Int) = 1; omega)
  · exact absurd h (by show ¬ (0 : Int) = 2; omega)
  · exact absurd h (by show ¬ (0 : Int) = 3; omega)
theorem mayE_iff (e : E4) : mayE e = true ↔ mayT e := by
  constructor
  · intro h
    obtain ⟨h1, h2, hp, hm, hb, ha, h3⟩ := of_decide_eq_true h
    have hid := mayM_yes hm
    have hall := pack_all hp
    obtain ⟨k, id, a, b⟩ := e
    simp only at *
    unfold mayT
    simp only
    rcases (show k = 0 ∨ k = 1 ∨ k = 2 ∨ k = 3 ∨ k = 4 ∨ k = 5 by omega) with rfl | rfl | rfl | rfl | rfl | rfl
    · have p0 := putOk_n (n := a) (c := 117) (hall 0 (by decide +kernel))
      have p1 := putOk_n (n := b) (c := 117) (hall 1 (by decide +kernel))
      omega
    · have p0 := putOk_n (n := a) (c := 117) (hall 0 (by decide +kernel))
      have hb : b = 0 := hb.resolve_left (by decide +kernel)
      omega
    · have ha : a = 0 := ha.resolve_left (by decide +kernel)
      have hb : b = 0 := hb.resolve_left (by decide +kernel)
      omega
    · have p0 := putOk_n (n := a) (c := 117) (hall 0 (by decide +kernel))
      have p1 := putOk_n (n := b) (c := 117) (hall 1 (by decide +kernel))
      omega
    · have p0 := putOk_n (n := a) (c := 105) (hall 0 (by decide +kernel))
      have p1 := putOk_n (n := b) (c := 105) (hall 1 (by decide +kernel))
      omega
    · have ha : a = 0 := ha.resolve_left (by decide +kernel)
      have hb : b = 0 := hb.resolve_left (by decide +kernel)
      omega
  · intro h
    obtain ⟨h1, h2, h3, h4, h5, h6, h7⟩ := h
    refine may_mk e h1 h2 (fit_pack e h1 h3 (fun h => (h4 h).1) h6) ?_ ?_ h7
    · rcases (show e.k = 0 ∨ e.k = 1 ∨ e.k = 2 ∨ e.k = 3 ∨ e.k = 4 ∨ e.k = 5 by omega) with h | h | h | h | h | h
      · left; rw [h]; decide +kernel
      · right; exact (h4 h).2
      · right; exact (h5 (.inl h)).2
      · left; rw [h]; decide +kernel
      · left; rw [h]; decide +kernel
      · right; exact (h5 (.inr h)).2
    · rcases (show e.k = 0 ∨ e.k = 1 ∨ e.k = 2 ∨ e.k = 3 ∨ e.k = 4 ∨ e.k = 5 by omega) with h | h | h | h | h | h
      · left; rw [h]; decide +kernel
      · left; rw [h]; decide +kernel
      · right; exact (h5 (.inl h)).1
      · left; rw [h]; decide +kernel
      · left; rw [h]; decide +kernel
      · right; exact (h5 (.inr h)).1
end Go.Proofs.YtinnaiofgbjicaaDoor
namespace Go.Proofs.YtinnaiofgbjicaaDoor
open Go.RowKit Go.Proofs.YtinnaiofgbjicaaDoorW.PrintWords
set_option linter.unusedSimpArgs false
set_option linter.unusedVariables false
set_option maxRecDepth 1000000
theorem ref_showOut (k id a b : Int) (w : World) (h : k < 0 ∨ (0 ≤ k ∧ 5 < k)) : Calls Tryd.prog 27 #[.agg #[.int .i64 k, .int .i64 id, .int .i64 a, .int .i64 b]] w fun en w' => en = .returned (.string (showS ⟨k, id, a, b⟩)) ∧ Below w.heap.size w w' := by
  have HS := Lib.hid (show showS ⟨k, id, a, b⟩ = { data := #[] } from by unfold showS; rw [if_neg]; intro hh; have := of_decide_eq_true hh; simp only at this; omega)
  rcases h with h1 | ⟨h1, h2⟩
  all_goals
    go_enter Tryd.func27, Tryd.ntmps27
    go_wp2
    (go_ret; refine ⟨?_, by (repeat (first | (with_reducible exact Below.refl _ _) | ((with_reducible refine Below.alloc ?_ ?hB _); (case hB => (first | omega | (simp; done) | (simp; omega)))) | ((with_reducible refine Below.setCell ?_ ?hB _); (case hB => (first | omega | (simp; done) | (simp; omega)))) | (with_reducible refine Below.drew ?_) | ((with_reducible refine below_ext_of ?_ ?hB); (case hB => (first | omega | (simp; done) | (simp; omega)))) | ((with_reducible refine Below.trans ?_ (Below.mono (by assumption) ?hB)); (case hB => (first | omega | (simp; done) | (simp; omega))))))⟩); rw [HS.out]; rfl
theorem ref_ShowE (e : E4) (w : World) (hbd : e.Bd) : Calls Tryd.prog 27 #[(.agg #[.int .i64 (e).k, .int .i64 (e).id, .int .i64 (e).a, .int .i64 (e).b])] w fun en w' => en = .returned (.string (showS e)) ∧ Below w.heap.size w w' := by
  obtain ⟨k, id, a, b⟩ := e
  by_cases h : 0 ≤ k ∧ k ≤ 5
  · rcases (show k = 0 ∨ k = 1 ∨ k = 2 ∨ k = 3 ∨ k = 4 ∨ k = 5 by omega) with rfl | rfl | rfl | rfl | rfl | rfl
    · exact ref_show0 id a b w hbd
    · exact ref_show1 id a b w hbd
    · exact ref_show2 id a b w hbd
    · exact ref_show3 id a b w hbd
    · exact ref_show4 id a b w hbd
    · exact ref_show5 id a b w hbd
  · exact ref_showOut k id a b w (by omega)
/-- How many are of a kind. -/
def cntE (l : List E4) (k : Int) : Nat := (l.filter (fun e => e.k == k)).length
theorem cnt_step (l : List E4) (k : Int) (j : Nat) (h : j < l.length) : cntE (l.take (j + 1)) k = cntE (l.take j) k + (if (atE l j).k == k then 1 else 0) := by
  rw [takeEv l j h]; unfold cntE; rw [List.filter_append, List.length_append]
  by_cases hk : (atE l j).k == k
  · simp [hk]
  · simp [hk]
theorem cnt_le (l : List E4) (k : Int) : cntE l k ≤ l.length := List.length_filter_le _ _
set_option maxHeartbeats 1000000 in
theorem ev_Count (A : Option Addr) (l : List E4) (c : Nat) (kind : Int) (w : World) (hr : ER w A l c) (hl : l.length ≤ 1000000) : Calls Tryd.prog 28 #[.slice A l.length c, .int .i64 kind] w fun e w' => e = .returned (.int .i64 (cntE l kind)) ∧ Below w.heap.size w w' := by
  have hrow := hr.row
  clear hr
  go_enter Tryd.func28, Tryd.ntmps28
  go_wp2
  go_loopw [5, 10] (fun n i wr => ∃ j : Nat, j ≤ l.length ∧ i = .int .i64 j ∧ n = .int .i64 (cntE (l.take j) kind) ∧ Below w.heap.size w wr) (fun _ i _ => l.length - (intOf i).toNat)
  case atStart => exact ⟨0, by omega, rfl, rfl, Below.refl _ _⟩
  case round =>
    obtain ⟨j, hj, rfl, rfl, hbr⟩ := hrel
    have hzr := hbr.size
    have HBR := Lib.hid hbr
    by_cases hlt : j < l.length
    · obtain ⟨ad, rfl, f0, f1, f2, f3⟩ := hrow j hlt
      have q0 := pw_cell_below hbr f0; have q1 := pw_cell_below hbr f1; have q2 := pw_cell_below hbr f2; have q3 := pw_cell_below hbr f3
      have hlo := lt_of_cell q0
      have HST := Lib.hid (cnt_step l kind j hlt)
      have hcb := cnt_le (l.take j) kind
      rw [List.length_take] at hcb
      clear f0 f1 f2 f3 hrow
      generalize atE l j = x at *
      obtain ⟨m, hm⟩ : ∃ m, cntE (l.take j) kind = m := ⟨_, rfl⟩
      rw [hm] at HST hcb
      rw [hm]
      clear hm
      cases hk : x.k == kind
      · have hke : ¬ x.k = kind := by simpa using hk
        go_wp2
        go_roundw
        case rel => exact ⟨j + 1, by omega, by go_num, by rw [HST.out, hk]; simp, HBR.out.trans (Below.mono (show Below wr.heap.size wr _ from by (repeat (first | (with_reducible exact Below.refl _ _) | ((with_reducible refine Below.alloc ?_ ?hB _); (case hB => (first | omega | (simp; done) | (simp; omega)))) | ((with_reducible refine Below.setCell ?_ ?hB _); (case hB => (first | omega | (simp; done) | (simp; omega)))) | (with_reducible refine Below.drew ?_) | ((with_reducible refine below_ext_of ?_ ?hB); (case hB => (first | omega | (simp; done) | (simp; omega)))) | ((with_reducible refine Below.trans ?_ (Below.mono (by assumption) ?hB)); (case hB => (first | omega | (simp; done) | (simp; omega))))))) hzr)⟩
        case measure => simp [intOf]; omega
      · have hke : x.k = kind := by simpa using hk
        go_wp2
        go_roundw
        case rel => exact ⟨j + 1, by omega, by go_num, by rw [HST.out, hk]; go_num, HBR.out.trans (Below.mono (show Below wr.heap.size wr _ from by (repeat (first | (with_reducible exact Below.refl _ _) | ((with_reducible refine Below.alloc ?_ ?hB _); (case hB => (first | omega | (simp; done) | (simp; omega)))) | ((with_reducible refine Below.setCell ?_ ?hB _); (case hB => (first | omega | (simp; done) | (simp; omega)))) | (with_reducible refine Below.drew ?_) | ((with_reducible refine below_ext_of ?_ ?hB); (case hB => (first | omega | (simp; done) | (simp; omega)))) | ((with_reducible refine Below.trans ?_ (Below.mono (by assumption) ?hB)); (case hB => (first | omega | (simp; done) | (simp; omega))))))) hzr)⟩
        case measure => simp [intOf]; omega
    · obtain rfl : j = l.length := by omega
      rw [List.take_length]
      go_wp2
      go_ret
      exact ⟨rfl, by (repeat (first | (with_reducible exact Below.refl _ _) | ((with_reducible refine Below.alloc ?_ ?hB _); (case hB => (first | omega | (simp; done) | (simp; omega)))) | ((with_reducible refine Below.setCell ?_ ?hB _); (case hB => (first | omega | (simp; done) | (simp; omega)))) | (with_reducible refine Below.drew ?_) | ((with_reducible refine below_ext_of ?_ ?hB); (case hB => (first | omega | (simp; done) | (simp; omega)))) | ((with_reducible refine Below.trans ?_ (Below.mono (by assumption) ?hB)); (case hB => (first | omega | (simp; done) | (simp; omega))))))⟩
theorem bl_sp (s : ByteArray) (n : Int) : (sp s n).data.toList = s.data.toList ++ 32 :: Lib.itoa n := by
  unfold sp itoS; simp
theorem showS_list (e : E4) (h : isE e.k = true) : (showS e).data.toList = (nameE e.k).data.toList ++ 32 :: (Lib.itoa e.id ++ ((argsE e).flatMap fun x => 32 :: Lib.itoa x.n)) := by
  unfold showS; rw [if_pos h]
  have key : ∀ (l : List V8) (s : ByteArray), (showN s l).data.toList = s.data.toList ++ l.flatMap fun x => 32 :: Lib.itoa x.n := by
    intro l
    induction l with
    | nil => intro s; simp [showN]
    | cons x l ih =>
      intro s
      show (showN (sp s x.n) l).data.toList = _
      rw [ih, bl_sp]; simp
  rw [key, bl_sp]; simp
theorem name_no (k : Int) : ∀ b ∈ (nameE k).data.toList, ¬ b = 32 := by
  unfold nameE
  split
  · decide
  · split
    · decide
    · split
      · decide
      · split
        · decide
        · split <;> decide
theorem name_inj {k m : Int} (hk : 0 ≤ k ∧ k ≤ 5) (hm : 0 ≤ m ∧ m ≤ 5) (h : (nameE k).data.toList = (nameE m).data.toList) : k = m := by
  rcases (show k = 0 ∨ k = 1 ∨ k = 2 ∨ k = 3 ∨ k = 4 ∨ k = 5 by omega) with rfl | rfl | rfl | rfl | rfl | rfl <;>
  rcases (show m = 0 ∨ m = 1 ∨ m = 2 ∨ m = 3 ∨ m = 4 ∨ m = 5 by omega) with rfl | rfl | rfl | rfl | rfl | rfl <;>
  first | rfl | exact absurd h (by decide)
theorem split_end {A A' : List UInt8} {B B' : List UInt8} (hA : ∀ b ∈ A, ¬ b = 32) (hA' : ∀ b ∈ A', ¬ b = 32) (h : A ++ (32 :: B) = A' ++ (32 :: B')) : A = A' ∧ B = B' := split_at hA hA' h
theorem showS_inj {x y : E4} (hx : mayE x = true) (hy : mayE y = true) (h : showS x = showS y) : x = y := by
  have tx := (mayE_iff x).1 hx
  have ty := (mayE_iff y).1 hy
  have ix : isE x.k = true := decide_eq_true tx.1
  have iy : isE y.k = true := decide_eq_true ty.1
  have hl : (showS x).data.toList = (showS y).data.toList := by rw [h]
  rw [showS_list x ix, showS_list y iy] at hl
  obtain ⟨h1, h2⟩ := split_at (name_no _) (name_no _) hl
  have hk := name_inj tx.1 ty.1 h1
  obtain ⟨k, id, a, b⟩ := x
  obtain ⟨k', id', a', b'⟩ := y
  simp only at hk
  subst hk
  unfold mayT at tx ty
  simp only at tx ty
  rcases (show k = 0 ∨ k = 1 ∨ k = 2 ∨ k = 3 ∨ k = 4 ∨ k = 5 by omega) with rfl | rfl | rfl | rfl | rfl | rfl
  · have h2 : Lib.itoa id ++ 32 :: (Lib.itoa a ++ 32 :: (Lib.itoa b ++ [])) = Lib.itoa id' ++ 32 :: (Lib.itoa a' ++ 32 :: (Lib.itoa b' ++ [])) := h2
    obtain ⟨e1, h3⟩ := split_at (itoa_bd _) (itoa_bd _) h2
    obtain ⟨e2, h4⟩ := split_at (itoa_bd _) (itoa_bd _) h3
    rw [List.append_nil, List.append_nil] at h4
    rw [itoa_inj e1, itoa_inj e2, itoa_inj h4]
  · have h2 : Lib.itoa id ++ 32 :: (Lib.itoa a ++ []) = Lib.itoa id' ++ 32 :: (Lib.itoa a' ++ []) := h2
    obtain ⟨e1, h3⟩ := split_at (itoa_bd _) (itoa_bd _) h2
    rw [List.append_nil, List.append_nil] at h3
    rw [itoa_inj e1, itoa_inj h3, show b = b' by omega]
  · have h2 : Lib.itoa id ++ [] = Lib.itoa id' ++ [] := h2
    rw [List.append_nil, List.append_nil] at h2
    rw [itoa_inj h2, show a = a' by omega, show b = b' by omega]
  · have h2 : Lib.itoa id ++ 32 :: (Lib.itoa a ++ 32 :: (Lib.itoa b ++ [])) = Lib.itoa id' ++ 32 :: (Lib.itoa a' ++ 32 :: (Lib.itoa b' ++ [])) := h2
    obtain ⟨e1, h3⟩ := split_at (itoa_bd _) (itoa_bd _) h2
    obtain ⟨e2, h4⟩ := split_at (itoa_bd _) (itoa_bd _) h3
    rw [List.append_nil, List.append_nil] at h4
    rw [itoa_inj e1, itoa_inj e2, itoa_inj h4]
  · have h2 : Lib.itoa id ++ 32 :: (Lib.itoa a ++ 32 :: (Lib.itoa b ++ [])) = Lib.itoa id' ++ 32 :: (Lib.itoa a' ++ 32 :: (Lib.itoa b' ++ [])) := h2
    obtain ⟨e1, h3⟩ := split_at (itoa_bd _) (itoa_bd _) h2
    obtain ⟨e2, h4⟩ := split_at (itoa_bd _) (itoa_bd _) h3
    rw [List.append_nil, List.append_nil] at h4
    rw [itoa_inj e1, itoa_inj e2, itoa_inj h4]
  · have h2 : Lib.itoa id ++ [] = Lib.itoa id' ++ [] := h2
    rw [List.append_nil, List.append_nil] at h2
    rw [itoa_inj h2, show a = a' by omega, show b = b' by omega]
end Go.Proofs.YtinnaiofgbjicaaDoor
namespace Go.Proofs.YtinnaiofgbjicaaDoor
open Go.RowKit Go.Proofs.YtinnaiofgbjicaaDoorW.PrintWords
set_option linter.unusedSimpArgs false
set_option linter.unusedVariables false
set_option maxRecDepth 1000000
theorem er_take {w : World} {A : Option Addr} {l : List E4} {c : Nat} (h : ER w A l c) (n : Nat) (hn : n ≤ l.length) : ER w A (l.take n) c ∧ ∀ i, i < n → atE (l.take n) i = atE l i := by
  have hl : (l.take n).length = n := by rw [List.length_take]; omega
  have hx : ∀ i, i < n → atE (l.take n) i = atE l i := fun i hi => by
    unfold atE; rw [List.getD_eq_getElem?_getD, List.getElem?_take, if_pos hi, List.getD_eq_getElem?_getD]
  have := h.le
  refine ⟨⟨by omega, h.nil, h.max, fun i hi => ?_⟩, hx⟩
  rw [hl] at hi
  rw [hx i hi]; exact h.row i (by omega)
theorem add04 (p : Addr) : p.add (0 * 4) = p := by simp [Addr.add]
set_option maxHeartbeats 4000000 in
theorem walk_EventShows (A : Option Addr) (l : List E4) (c : Nat) (kind : Int) (w : World) (hr : ER w A l c) (hbd : ∀ i, i < l.length → (atE l i).Bd) (hT : Tab w) : Calls Tryd.prog 6 #[.slice A l.length c, .int .i64 kind] w fun e w' => e = .returned (.bool true) ∧ Below w.heap.size w w' := by
  have hll := hr.len
  have hle := hr.le
  have HLV := Lib.hid ev_lives
  have HT := Lib.hid hT
  clear hT
  obtain ⟨hro, hat⟩ := er_take hr (min l.length 6) (by omega)
  have hol : (l.take (min l.length 6)).length = min l.length 6 := by rw [List.length_take]; omega
  have hob : ∀ i, i < (l.take (min l.length 6)).length → (atE (l.take (min l.length 6)) i).Bd := fun i hi => by rw [hol] at hi; rw [hat i hi]; exact hbd i (by omega)
  have hmin : min (l.length : Int) 6 = ((min l.length 6 : Nat) : Int) := by omega
  obtain ⟨N, hN⟩ : ∃ N, min l.length 6 = N := ⟨_, rfl⟩
  rw [hN] at hro hol hob hmin
  have hN6 : N ≤ 6 := by omega
  have hNl : N ≤ l.length := by omega
  have cC := fun A c w h => ev_Count A (l.take N) c kind w h (by omega)
  have cO2 : ∀ w', Below w.heap.size w w' → Calls Tryd.prog 24 #[.slice A N c] w' (RowE w' 57 (l.take N)) := fun w' hb => by
    have := law_of A (l.take N) c w' (by omega) (hro.below hb)
    rwa [hol] at this
  unfold RowE at cO2
  have HRO := Lib.hid hro
  have HOB := Lib.hid hob
  have HOL := Lib.hid hol
  clear hr hbd hat hro hob hN hol
  generalize l.take N = own at *
  go_enter Tryd.func6, Tryd.ntmps6
  go_wp2
  go_loopw [5, 7] (fun n i wr => ∃ k : Nat, k ≤ N ∧ i = .int .i64 k ∧ n = .int .i64 (cntE (own.take k) kind) ∧ Below w.heap.size w wr) (fun _ i _ => N - (intOf i).toNat)
  case atStart => exact ⟨0, by omega, rfl, rfl, Below.refl _ _⟩
  case round =>
    obtain ⟨k, hk, rfl, rfl, hbr⟩ := hrel
    have hzr := hbr.size
    by_cases hlt : k < N
    · obtain ⟨ad, rfl, f0, f1, f2, f3⟩ := HRO.out.row k (by rw [HOL.out]; exact hlt)
      have s0 := pw_cell_below hbr f0; have s1 := pw_cell_below hbr f1; have s2 := pw_cell_below hbr f2; have s3 := pw_cell_below hbr f3
      have hxb := HOB.out k (by rw [HOL.out]; exact hlt)
      have HST := Lib.hid (cnt_step own kind k (by rw [HOL.out]; exact hlt))
      have hcb := cnt_le (own.take k) kind
      rw [List.length_take, HOL.out] at hcb
      generalize atE own k = x at *
      have hE1 : ER w (some (ad.add (k * 4))) [x] (c - k) := ⟨by simp only [List.length_cons, List.length_nil]; omega, (fun e => by cases e), by have := HRO.out.max; omega, fun i hi => by
        have : i = 0 := by simp at hi; omega
        subst this
        refine ⟨_, rfl, ?_, ?_, ?_, ?_⟩
        · rw [add04]; exact f0
        · rw [add04]; exact f1
        · rw [add04]; exact f2
        · rw [add04]; exact f3⟩
      have cO : ∀ w', Below w.heap.size w w' → Calls Tryd.prog 24 #[.slice (some (ad.add (k * 4))) 1 (c - k)] w' (RowE w' 57 [x]) := fun w' hb => law_of (some (ad.add (k * 4))) [x] (c - k) w' (by simp) (hE1.below hb)
      unfold RowE at cO
      have cS := fun w' (hb : Below w.heap.size w w') => ev_Show x w' hxb (HT.out.at hb)
      have cN := fun w' => ref_ShowE x w' hxb
      have hw1 : IntKind.i64.wrap ((k : Int) + 1) = (k : Int) + 1 := by rw [IntKind.wrap_i64]; omega
      have hw2 : (0 : Int) ≤ (k : Int) + 1 := by omega
      have hw3 : ((k : Int) + 1).toNat = k + 1 := by omega
      have hlo := lt_of_cell s0
      clear hE1 hxb f0 f1 f2 f3
      generalize showS x = sx at *
      obtain ⟨mm, hmm⟩ : ∃ mm, cntE (own.take k) kind = mm := ⟨_, rfl⟩
      rw [hmm] at HST hcb
      rw [hmm]
      clear hmm
      go_wp2_with fail
      go_region_with (first | (go_at_call 24; (with_reducible refine (cO _ ?_).mono ?_); (focus ((repeat (first | (with_reducible exact Below.refl _ _) | ((with_reducible refine Below.alloc ?_ ?hB _); (case hB => (first | omega | (simp; done) | (simp; omega)))) | ((with_reducible refine Below.setCell ?_ ?hB _); (case hB => (first | omega | (simp; done) | (simp; omega)))) | (with_reducible refine Below.drew ?_) | ((with_reducible refine below_ext_of ?_ ?hB); (case hB => (first | omega | (simp; done) | (simp; omega)))) | ((with_reducible refine Below.trans ?_ (Below.mono (by assumption) ?hB)); (case hB => (first | omega | (simp; done) | (simp; omega)))))); done)); rintro en w3 ⟨v3, rfl, ho3, hb3⟩; obtain ⟨A3, c3, rfl, hr3⟩ := ho3.er; clear ho3; obtain ⟨ad3, rfl, p0, p1, p2, p3⟩ := hr3.row 0 (by simp); clear hr3; replace p0 : w3.cell? ad3 = some (.int .i64 x.k) := (by rw [add04] at p0; exact p0); replace p1 : w3.cell? ⟨ad3.block, ad3.off + 1, none⟩ = some (.int .i64 x.id) := (by rw [add04] at p1; exact p1); replace p2 : w3.cell? ⟨ad3.block, ad3.off + 2, none⟩ = some (.int .i64 x.a) := (by rw [add04] at p2; exact p2); replace p3 : w3.cell? ⟨ad3.block, ad3.off + 3, none⟩ = some (.int .i64 x.b) := (by rw [add04] at p3; exact p3); (try (have s0 := pw_cell_below hb3 s0; have s1 := pw_cell_below hb3 s1; have s2 := pw_cell_below hb3 s2; have s3 := pw_cell_below hb3 s3)); have hz3 := hb3.size; (try simp only [World.size_alloc, World.size_setCell, World.size_drew] at hz3)) | (go_at_call 25; (with_reducible refine (cS _ ?_).mono ?_); (focus ((repeat (first | (with_reducible exact Below.refl _ _) | ((with_reducible refine Below.alloc ?_ ?hB _); (case hB => (first | omega | (simp; done) | (simp; omega)))) | ((with_reducible refine Below.setCell ?_ ?hB _); (case hB => (first | omega | (simp; done) | (simp; omega)))) | (with_reducible refine Below.drew ?_) | ((with_reducible refine below_ext_of ?_ ?hB); (case hB => (first | omega | (simp; done) | (simp; omega)))) | ((with_reducible refine Below.trans ?_ (Below.mono (by assumption) ?hB)); (case hB => (first | omega | (simp; done) | (simp; omega)))))); done)); rintro en w4 ⟨rfl, hb4⟩; (try (have p0 := pw_cell_below hb4 p0; have p1 := pw_cell_below hb4 p1; have p2 := pw_cell_below hb4 p2; have p3 := pw_cell_below hb4 p3)); (try (have s0 := pw_cell_below hb4 s0; have s1 := pw_cell_below hb4 s1; have s2 := pw_cell_below hb4 s2; have s3 := pw_cell_below hb4 s3)); have hz4 := hb4.size; (try simp only [World.size_alloc, World.size_setCell, World.size_drew] at hz4)) | (go_at_call 27; (with_reducible refine (cN _).mono ?_); rintro en w5 ⟨rfl, hb5⟩; (try (have p0 := pw_cell_below hb5 p0; have p1 := pw_cell_below hb5 p1; have p2 := pw_cell_below hb5 p2; have p3 := pw_cell_below hb5 p3)); (try (have s0 := pw_cell_below hb5 s0; have s1 := pw_cell_below hb5 s1; have s2 := pw_cell_below hb5 s2; have s3 := pw_cell_below hb5 s3)); have hz5 := hb5.size; (try simp only [World.size_alloc, World.size_setCell, World.size_drew] at hz5)))
      all_goals
        cases hkd : x.k == kind
        · have hke : ¬ x.k = kind := by simpa using hkd
          go_wp2
          go_roundw
          case rel => exact ⟨k + 1, by omega, by go_num, by rw [HST.out, hkd]; simp, by (repeat (first | (with_reducible exact Below.refl _ _) | ((with_reducible refine Below.alloc ?_ ?hB _); (case hB => (first | omega | (simp; done) | (simp; omega)))) | ((with_reducible refine Below.setCell ?_ ?hB _); (case hB => (first | omega | (simp; done) | (simp; omega)))) | (with_reducible refine Below.drew ?_) | ((with_reducible refine below_ext_of ?_ ?hB); (case hB => (first | omega | (simp; done) | (simp; omega)))) | ((with_reducible refine Below.trans ?_ (Below.mono (by assumption) ?hB)); (case hB => (first | omega | (simp; done) | (simp; omega))))))⟩
          case measure => simp [intOf]; omega
        · have hke : x.k = kind := by simpa using hkd
          go_wp2
          go_roundw
          case rel => exact ⟨k + 1, by omega, by go_num, by rw [HST.out, hkd]; go_num, by (repeat (first | (with_reducible exact Below.refl _ _) | ((with_reducible refine Below.alloc ?_ ?hB _); (case hB => (first | omega | (simp; done) | (simp; omega)))) | ((with_reducible refine Below.setCell ?_ ?hB _); (case hB => (first | omega | (simp; done) | (simp; omega)))) | (with_reducible refine Below.drew ?_) | ((with_reducible refine below_ext_of ?_ ?hB); (case hB => (first | omega | (simp; done) | (simp; omega)))) | ((with_reducible refine Below.trans ?_ (Below.mono (by assumption) ?hB)); (case hB => (first | omega | (simp; done) | (simp; omega))))))⟩
          case measure => simp [intOf]; omega
    · obtain rfl : k = N := by omega
      have HTK := Lib.hid (show own.take k = own from List.take_of_length_le (by rw [HOL.out]; exact Nat.le_refl _))
      rw [HTK.out]
      generalize cntE own kind = mm at *
      go_wp2_with (first | (go_at_call 24; (with_reducible refine (cO2 _ ?_).mono ?_); (focus ((repeat (first | (with_reducible exact Below.refl _ _) | ((with_reducible refine Below.alloc ?_ ?hB _); (case hB => (first | omega | (simp; done) | (simp; omega)))) | ((with_reducible refine Below.setCell ?_ ?hB _); (case hB => (first | omega | (simp; done) | (simp; omega)))) | (with_reducible refine Below.drew ?_) | ((with_reducible refine below_ext_of ?_ ?hB); (case hB => (first | omega | (simp; done) | (simp; omega)))) | ((with_reducible refine Below.trans ?_ (Below.mono (by assumption) ?hB)); (case hB => (first | omega | (simp; done) | (simp; omega)))))); done)); rintro en w6 ⟨v6, rfl, ho6, hb6⟩; obtain ⟨A6, c6, rfl, hr6⟩ := ho6.er; clear ho6; have hz6 := hb6.size; replace hr6 := Lib.hid hr6; (try simp only [World.size_alloc, World.size_setCell, World.size_drew] at hz6)) | (go_at_call 28; (with_reducible refine (cC _ _ _ hr6.out).mono ?_); rintro en w7 ⟨rfl, hb7⟩; have hz7 := hb7.size; (try simp only [World.size_alloc, World.size_setCell, World.size_drew] at hz7)) | (go_at_call 26; (with_reducible refine (HLV.out _).mono ?_); rintro en w8 ⟨rfl, hb8⟩; have hz8 := hb8.size))
      go_ret
      exact ⟨rfl, by (repeat (first | (with_reducible exact Below.refl _ _) | ((with_reducible refine Below.alloc ?_ ?hB _); (case hB => (first | omega | (simp; done) | (simp; omega)))) | ((with_reducible refine Below.setCell ?_ ?hB _); (case hB => (first | omega | (simp; done) | (simp; omega)))) | (with_reducible refine Below.drew ?_) | ((with_reducible refine below_ext_of ?_ ?hB); (case hB => (first | omega | (simp; done) | (simp; omega)))) | ((with_reducible refine Below.trans ?_ (Below.mono (by assumption) ?hB)); (case hB => (first | omega | (simp; done) | (simp; omega))))))⟩
end Go.Proofs.YtinnaiofgbjicaaDoor
