/- What the document says of a key on top, of one lowest, and of those over one. -/
import Derived.Test.YteldbnelfeiifaaStkZa
namespace Go.Proofs.Yteldbnelfeiifaa
open Go.RowKit Go.Proofs.YteldbnelfeiifaaW.PrintWords
set_option linter.unusedSimpArgs false
set_option linter.unusedVariables false
set_option maxRecDepth 1000000
attribute [local go_sem high] eqK eqKS
/-- A row that a deed of the document hands back: the old one, or a new one, and an answer. -/
def MoveR (w : World) (v0 : Value) (l : List K2) (k : K2) (l' : List K2) (e : Ending) (w' : World) : Prop := ∃ v r, e = .returned (.tuple #[v, .int .i64 r]) ∧ (if k ∈ l then r = 0 ∧ OwnK w' w.heap.size 56 v l' else v = v0 ∧ r = 5) ∧ Below w.heap.size w w'
theorem ref_Top (A : Option Addr) (l : List K2) (c : Nat) (k : K2) (w : World) (hl : l.length ≤ 10000) (hr : KR w A l c) : Calls Try.prog 71 #[.slice A l.length c, (.agg #[.int .i64 (k).c, .int .i64 (k).i])] w (MoveR w (.slice A l.length c) l k (dropL l k ++ [k])) := by
  have cD := fun w1 (hb : Below w.heap.size w w1) => ref_Drop A l c k w1 (by omega) (hr.below hb)
  unfold DropP at cD
  have hdl := dropL_len l k
  clear hr
  by_cases hk : k ∈ l
  · rw [decide_eq_true hk] at cD
    replace hk := Lib.hid hk
    generalize dropL l k = D at *
    go_enter Try.func71, Try.ntmps71
    go_wp2_with (first | (go_at_call 42; (with_reducible refine (cD _ ?_).mono ?_); (focus ((repeat (first | (with_reducible exact Below.refl _ _) | ((with_reducible refine Below.alloc ?_ ?hB _); (case hB => (first | omega | (simp; done) | (simp; omega)))) | ((with_reducible refine Below.setCell ?_ ?hB _); (case hB => (first | omega | (simp; done) | (simp; omega)))) | (with_reducible refine Below.drew ?_) | ((with_reducible refine below_ext_of ?_ ?hB); (case hB => (first | omega | (simp; done) | (simp; omega)))) | ((with_reducible refine Below.trans ?_ (Below.mono (by assumption) ?hB)); (case hB => (first | omega | (simp; done) | (simp; omega)))))); done)); rintro e w3 ⟨v3, rfl, ho3, hb3⟩; have hz3 := hb3.size; (try simp only [World.size_alloc] at hz3); replace ho3 := Lib.hid ho3; obtain ⟨hc3, hf3⟩ := bcell hb3) | (at_builtin; refine print_append_cells (w0 := w) (w.heap.size) rfl _ _ 54 56 _ 2 16 rfl Try.underlying54 info_k rfl (by decide) (by decide) _ _ _ [.int .i64 (k).c, .int .i64 (k).i] rfl ?_ rfl ?_ (OwnK.below (ho3.out.mono (by simp)) ?_) ?_ ?_ ?_ ?_; (focus (go_simp; done)); (focus (simp [Value.oneCell']; done)); (focus ((repeat (first | (with_reducible exact Below.refl _ _) | ((with_reducible refine Below.alloc ?_ ?hB _); (case hB => (first | omega | (simp; done) | (simp; omega)))) | ((with_reducible refine Below.setCell ?_ ?hB _); (case hB => (first | omega | (simp; done) | (simp; omega)))) | (with_reducible refine Below.drew ?_) | ((with_reducible refine below_ext_of ?_ ?hB); (case hB => (first | omega | (simp; done) | (simp; omega)))) | ((with_reducible refine Below.trans ?_ (Below.mono (by assumption) ?hB)); (case hB => (first | omega | (simp; done) | (simp; omega)))))); done)); (focus ((repeat (first | (with_reducible exact Below.refl _ _) | ((with_reducible refine Below.alloc ?_ ?hB _); (case hB => (first | omega | (simp; done) | (simp; omega)))) | ((with_reducible refine Below.setCell ?_ ?hB _); (case hB => (first | omega | (simp; done) | (simp; omega)))) | (with_reducible refine Below.drew ?_) | ((with_reducible refine below_ext_of ?_ ?hB); (case hB => (first | omega | (simp; done) | (simp; omega)))) | ((with_reducible refine Below.trans ?_ (Below.mono (by assumption) ?hB)); (case hB => (first | omega | (simp; done) | (simp; omega)))))); done)); (focus ((first | omega | (simp; done) | (simp; omega)); done)); (focus omega); intro v4 w4 hown4 hb4 hg4 ha4; have hz4 := hb4.size; (try simp only [World.size_alloc, World.size_setCell, World.size_drew] at hz4)))
    go_ret2
    exact ⟨_, _, rfl, by rw [if_pos hk.out]; exact ⟨rfl, OwnK.snoc hown4⟩, hb4⟩
  · rw [decide_eq_false hk] at cD
    replace hk := Lib.hid hk
    go_enter Try.func71, Try.ntmps71
    go_wp2_with (first | (go_at_call 42; (with_reducible refine (cD _ ?_).mono ?_); (focus ((repeat (first | (with_reducible exact Below.refl _ _) | ((with_reducible refine Below.alloc ?_ ?hB _); (case hB => (first | omega | (simp; done) | (simp; omega)))) | ((with_reducible refine Below.setCell ?_ ?hB _); (case hB => (first | omega | (simp; done) | (simp; omega)))) | (with_reducible refine Below.drew ?_) | ((with_reducible refine below_ext_of ?_ ?hB); (case hB => (first | omega | (simp; done) | (simp; omega)))) | ((with_reducible refine Below.trans ?_ (Below.mono (by assumption) ?hB)); (case hB => (first | omega | (simp; done) | (simp; omega)))))); done)); rintro e w3 ⟨v3, rfl, ho3, hb3⟩; have hz3 := hb3.size; (try simp only [World.size_alloc] at hz3); replace ho3 := Lib.hid ho3; obtain ⟨hc3, hf3⟩ := bcell hb3))
    go_ret2
    exact ⟨_, _, rfl, by rw [if_neg hk.out]; exact ⟨rfl, rfl⟩, by (repeat (first | (with_reducible exact Below.refl _ _) | ((with_reducible refine Below.alloc ?_ ?hB _); (case hB => (first | omega | (simp; done) | (simp; omega)))) | ((with_reducible refine Below.setCell ?_ ?hB _); (case hB => (first | omega | (simp; done) | (simp; omega)))) | (with_reducible refine Below.drew ?_) | ((with_reducible refine below_ext_of ?_ ?hB); (case hB => (first | omega | (simp; done) | (simp; omega)))) | ((with_reducible refine Below.trans ?_ (Below.mono (by assumption) ?hB)); (case hB => (first | omega | (simp; done) | (simp; omega))))))⟩
theorem own_one (W : World) (base : Nat) (k : K2) (h : base ≤ W.heap.size) : OwnK (W.alloc (.cells #[.int .i64 k.c, .int .i64 k.i] 56)) base 56 (.slice (some ⟨W.heap.size, 0, none⟩) 1 1) [k] :=
  OwnK.mk (l := [k]) (rest := []) h (by simpa [flatK, K2.cells] using blk_new W (.cells #[.int .i64 k.c, .int .i64 k.i] 56)) (Nat.le_refl _) (by simp) (by simp [flatK, K2.cells])
theorem ref_Lower (A : Option Addr) (l : List K2) (c : Nat) (k : K2) (w : World) (hl : l.length ≤ 10000) (hr : KR w A l c) : Calls Try.prog 72 #[.slice A l.length c, (.agg #[.int .i64 (k).c, .int .i64 (k).i])] w (MoveR w (.slice A l.length c) l k ([k] ++ dropL l k)) := by
  have cD := fun w1 (hb : Below w.heap.size w w1) => ref_Drop A l c k w1 (by omega) (hr.below hb)
  unfold DropP at cD
  have hdl := dropL_len l k
  clear hr
  by_cases hk : k ∈ l
  · rw [decide_eq_true hk] at cD
    replace hk := Lib.hid hk
    generalize dropL l k = D at *
    go_enter Try.func72, Try.ntmps72
    go_wp2_with (first | ((go_at_call 42; (with_reducible refine (cD _ ?_).mono ?_); (focus ((repeat (first | (with_reducible exact Below.refl _ _) | ((with_reducible refine Below.alloc ?_ ?hB _); (case hB => (first | omega | (simp; done) | (simp; omega)))) | ((with_reducible refine Below.setCell ?_ ?hB _); (case hB => (first | omega | (simp; done) | (simp; omega)))) | (with_reducible refine Below.drew ?_) | ((with_reducible refine below_ext_of ?_ ?hB); (case hB => (first | omega | (simp; done) | (simp; omega)))) | ((with_reducible refine Below.trans ?_ (Below.mono (by assumption) ?hB)); (case hB => (first | omega | (simp; done) | (simp; omega)))))); done)); rintro e w3 ⟨v3, rfl, ho3, hb3⟩; have hz3 := hb3.size; (try simp only [World.size_alloc] at hz3); replace ho3 := Lib.hid ho3; obtain ⟨hc3, hf3⟩ := bcell hb3); obtain ⟨A3, c3, rfl, hk3⟩ := ho3.out.kr; replace hk3 := Lib.hid hk3) | (at_builtin; refine append_rowK (w0 := w) w.heap.size rfl rfl Try.underlying54 info_k _ [k] D A3 c3 rfl rfl (own_one w3 _ k ?_) (hk3.out.below ?_) ?_ ?_ ?_ ?_; (focus ((first | omega | (simp; done) | (simp; omega)); done)); (focus ((repeat (first | (with_reducible exact Below.refl _ _) | ((with_reducible refine Below.alloc ?_ ?hB _); (case hB => (first | omega | (simp; done) | (simp; omega)))) | ((with_reducible refine Below.setCell ?_ ?hB _); (case hB => (first | omega | (simp; done) | (simp; omega)))) | (with_reducible refine Below.drew ?_) | ((with_reducible refine below_ext_of ?_ ?hB); (case hB => (first | omega | (simp; done) | (simp; omega)))) | ((with_reducible refine Below.trans ?_ (Below.mono (by assumption) ?hB)); (case hB => (first | omega | (simp; done) | (simp; omega)))))); done)); (focus ((repeat (first | (with_reducible exact Below.refl _ _) | ((with_reducible refine Below.alloc ?_ ?hB _); (case hB => (first | omega | (simp; done) | (simp; omega)))) | ((with_reducible refine Below.setCell ?_ ?hB _); (case hB => (first | omega | (simp; done) | (simp; omega)))) | (with_reducible refine Below.drew ?_) | ((with_reducible refine below_ext_of ?_ ?hB); (case hB => (first | omega | (simp; done) | (simp; omega)))) | ((with_reducible refine Below.trans ?_ (Below.mono (by assumption) ?hB)); (case hB => (first | omega | (simp; done) | (simp; omega)))))); done)); (focus ((first | omega | (simp; done) | (simp; omega)); done)); (focus (simp; omega)); intro v4 w4 hown4 hb4 _ _; have hz4 := hb4.size))
    go_ret2
    exact ⟨_, _, rfl, by rw [if_pos hk.out]; exact ⟨rfl, hown4⟩, hb4⟩
  · rw [decide_eq_false hk] at cD
    replace hk := Lib.hid hk
    go_enter Try.func72, Try.ntmps72
    go_wp2_with (first | (go_at_call 42; (with_reducible refine (cD _ ?_).mono ?_); (focus ((repeat (first | (with_reducible exact Below.refl _ _) | ((with_reducible refine Below.alloc ?_ ?hB _); (case hB => (first | omega | (simp; done) | (simp; omega)))) | ((with_reducible refine Below.setCell ?_ ?hB _); (case hB => (first | omega | (simp; done) | (simp; omega)))) | (with_reducible refine Below.drew ?_) | ((with_reducible refine below_ext_of ?_ ?hB); (case hB => (first | omega | (simp; done) | (simp; omega)))) | ((with_reducible refine Below.trans ?_ (Below.mono (by assumption) ?hB)); (case hB => (first | omega | (simp; done) | (simp; omega)))))); done)); rintro e w3 ⟨v3, rfl, ho3, hb3⟩; have hz3 := hb3.size; (try simp only [World.size_alloc] at hz3); replace ho3 := Lib.hid ho3; obtain ⟨hc3, hf3⟩ := bcell hb3))
    go_ret2
    exact ⟨_, _, rfl, by rw [if_neg hk.out]; exact ⟨rfl, rfl⟩, by (repeat (first | (with_reducible exact Below.refl _ _) | ((with_reducible refine Below.alloc ?_ ?hB _); (case hB => (first | omega | (simp; done) | (simp; omega)))) | ((with_reducible refine Below.setCell ?_ ?hB _); (case hB => (first | omega | (simp; done) | (simp; omega)))) | (with_reducible refine Below.drew ?_) | ((with_reducible refine below_ext_of ?_ ?hB); (case hB => (first | omega | (simp; done) | (simp; omega)))) | ((with_reducible refine Below.trans ?_ (Below.mono (by assumption) ?hB)); (case hB => (first | omega | (simp; done) | (simp; omega))))))⟩
def overL (l : List K2) (k : K2) : List K2 := if k ∈ l then l.drop (l.idxOf k + 1) else []
theorem overL_len (l : List K2) (k : K2) : (overL l k).length ≤ l.length := by unfold overL; split <;> simp
def OverR (w : World) (l : List K2) (k : K2) (e : Ending) (w' : World) : Prop := ∃ A c, e = .returned (.slice A (overL l k).length c) ∧ KR w' A (overL l k) c ∧ Below w.heap.size w w'
theorem ref_Over (A : Option Addr) (l : List K2) (c : Nat) (k : K2) (w : World) (hl : l.length ≤ 10000) (hr : KR w A l c) : Calls Try.prog 48 #[.slice A l.length c, (.agg #[.int .i64 (k).c, .int .i64 (k).i])] w (OverR w l k) := by
  have cA := fun w1 (hb : Below w.heap.size w w1) => ref_At A l c k w1 (by omega) (hr.row.below hb)
  have hR := fun w' (hb : Below w.heap.size w w') => KR.below hr hb
  by_cases hk : k ∈ l
  · obtain ⟨j, hj⟩ : ∃ j, l.idxOf k = j := ⟨_, rfl⟩
    have hrr : atP l k = (j : Int) := by unfold atP; rw [if_pos hk, hj]
    have hjl : j < l.length := by rw [← hj]; exact List.idxOf_lt_length_iff.2 hk
    rw [hrr] at cA
    have ho : overL l k = l.drop (j + 1) := by unfold overL; rw [if_pos hk, hj]
    have hle := hr.le
    have b4 : (0 : Int) ≤ (j : Int) + 1 := by omega
    cases A with
    | none => exact absurd (hr.nil rfl) (by omega)
    | some ad =>
    by_cases hjc : c = j + 1
    · have hd0 : l.drop (j + 1) = [] := List.drop_eq_nil_of_le (by omega)
      have HO := Lib.hid (ho.trans hd0)
      have hll : l.length = j + 1 := by omega
      subst hjc
      rw [hll] at cA ⊢
      clear hk hrr hj hr hd0 hle hjl hR ho
      go_enter Try.func48, Try.ntmps48
      go_wp2_with (first | (go_at_call 47; (with_reducible refine (cA _ ?_).mono ?_); (focus ((repeat (first | (with_reducible exact Below.refl _ _) | ((with_reducible refine Below.alloc ?_ ?hB _); (case hB => (first | omega | (simp; done) | (simp; omega)))) | ((with_reducible refine Below.setCell ?_ ?hB _); (case hB => (first | omega | (simp; done) | (simp; omega)))) | (with_reducible refine Below.drew ?_) | ((with_reducible refine below_ext_of ?_ ?hB); (case hB => (first | omega | (simp; done) | (simp; omega)))) | ((with_reducible refine Below.trans ?_ (Below.mono (by assumption) ?hB)); (case hB => (first | omega | (simp; done) | (simp; omega)))))); done)); rintro e w3 ⟨rfl, hb3⟩; have hz3 := hb3.size; (try simp only [World.size_alloc] at hz3); obtain ⟨hc3, hf3⟩ := bcell hb3))
      go_ret
      unfold OverR
      rw [HO.out]
      exact ⟨_, _, rfl, ⟨Nat.le_refl _, (by intro e; cases e), by omega, KRow.nil _ _⟩, by (repeat (first | (with_reducible exact Below.refl _ _) | ((with_reducible refine Below.alloc ?_ ?hB _); (case hB => (first | omega | (simp; done) | (simp; omega)))) | ((with_reducible refine Below.setCell ?_ ?hB _); (case hB => (first | omega | (simp; done) | (simp; omega)))) | (with_reducible refine Below.drew ?_) | ((with_reducible refine below_ext_of ?_ ?hB); (case hB => (first | omega | (simp; done) | (simp; omega)))) | ((with_reducible refine Below.trans ?_ (Below.mono (by assumption) ?hB)); (case hB => (first | omega | (simp; done) | (simp; omega))))))⟩
    · have HO := Lib.hid ho
      have HD := Lib.hid (fun w' hb => (hR w' hb).drop (j + 1) (by omega) hjc)
      have HL := Lib.hid (show (l.drop (j + 1)).length = l.length - (j + 1) from by simp)
      have b5 : j + 1 ≤ l.length := by omega
      clear hk hrr hj hr hR ho
      go_enter Try.func48, Try.ntmps48
      go_wp2_with (first | (go_at_call 47; (with_reducible refine (cA _ ?_).mono ?_); (focus ((repeat (first | (with_reducible exact Below.refl _ _) | ((with_reducible refine Below.alloc ?_ ?hB _); (case hB => (first | omega | (simp; done) | (simp; omega)))) | ((with_reducible refine Below.setCell ?_ ?hB _); (case hB => (first | omega | (simp; done) | (simp; omega)))) | (with_reducible refine Below.drew ?_) | ((with_reducible refine below_ext_of ?_ ?hB); (case hB => (first | omega | (simp; done) | (simp; omega)))) | ((with_reducible refine Below.trans ?_ (Below.mono (by assumption) ?hB)); (case hB => (first | omega | (simp; done) | (simp; omega)))))); done)); rintro e w3 ⟨rfl, hb3⟩; have hz3 := hb3.size; (try simp only [World.size_alloc] at hz3); obtain ⟨hc3, hf3⟩ := bcell hb3))
      go_ret
      unfold OverR
      rw [HO.out, HL.out]
      have hb : Below w.heap.size w w3 := by (repeat (first | (with_reducible exact Below.refl _ _) | ((with_reducible refine Below.alloc ?_ ?hB _); (case hB => (first | omega | (simp; done) | (simp; omega)))) | ((with_reducible refine Below.setCell ?_ ?hB _); (case hB => (first | omega | (simp; done) | (simp; omega)))) | (with_reducible refine Below.drew ?_) | ((with_reducible refine below_ext_of ?_ ?hB); (case hB => (first | omega | (simp; done) | (simp; omega)))) | ((with_reducible refine Below.trans ?_ (Below.mono (by assumption) ?hB)); (case hB => (first | omega | (simp; done) | (simp; omega))))))
      obtain ⟨ad', e, hk⟩ := HD.out w3 hb
      injection e with e
      subst e
      exact ⟨_, _, rfl, hk, hb⟩
  · have hrr : atP l k = -1 := by unfold atP; rw [if_neg hk]
    rw [hrr] at cA
    have HO := Lib.hid (show overL l k = [] from by unfold overL; rw [if_neg hk])
    clear hrr hk hR hr
    go_enter Try.func48, Try.ntmps48
    go_wp2_with (first | (go_at_call 47; (with_reducible refine (cA _ ?_).mono ?_); (focus ((repeat (first | (with_reducible exact Below.refl _ _) | ((with_reducible refine Below.alloc ?_ ?hB _); (case hB => (first | omega | (simp; done) | (simp; omega)))) | ((with_reducible refine Below.setCell ?_ ?hB _); (case hB => (first | omega | (simp; done) | (simp; omega)))) | (with_reducible refine Below.drew ?_) | ((with_reducible refine below_ext_of ?_ ?hB); (case hB => (first | omega | (simp; done) | (simp; omega)))) | ((with_reducible refine Below.trans ?_ (Below.mono (by assumption) ?hB)); (case hB => (first | omega | (simp; done) | (simp; omega)))))); done)); rintro e w3 ⟨rfl, hb3⟩; have hz3 := hb3.size; (try simp only [World.size_alloc] at hz3); obtain ⟨hc3, hf3⟩ := bcell hb3))
    go_ret
    unfold OverR
    rw [HO.out]
    exact ⟨_, _, rfl, ⟨Nat.le_refl _, fun _ => rfl, by omega, KRow.nil _ _⟩, by (repeat (first | (with_reducible exact Below.refl _ _) | ((with_reducible refine Below.alloc ?_ ?hB _); (case hB => (first | omega | (simp; done) | (simp; omega)))) | ((with_reducible refine Below.setCell ?_ ?hB _); (case hB => (first | omega | (simp; done) | (simp; omega)))) | (with_reducible refine Below.drew ?_) | ((with_reducible refine below_ext_of ?_ ?hB); (case hB => (first | omega | (simp; done) | (simp; omega)))) | ((with_reducible refine Below.trans ?_ (Below.mono (by assumption) ?hB)); (case hB => (first | omega | (simp; done) | (simp; omega))))))⟩
end Go.Proofs.Yteldbnelfeiifaa
