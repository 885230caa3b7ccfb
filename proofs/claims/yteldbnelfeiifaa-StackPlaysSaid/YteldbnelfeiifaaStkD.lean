/- A stack's keys: where one stands, all of them; one more, walked. -/
import Derived.Test.YteldbnelfeiifaaStkC
namespace Go.Proofs.Yteldbnelfeiifaa
open Go.RowKit Go.Proofs.YteldbnelfeiifaaW.PrintWords
set_option linter.unusedSimpArgs false
set_option linter.unusedVariables false
set_option maxRecDepth 1000000
attribute [local go_sem high] eqK eqKS
theorem below_ext_of {B : Nat} {a w : World} {x : Ext} (h : Below B a w) (hB : B ≤ w.heap.size) : Below B a (ext w x) := h.trans ((below_ext w x).mono hB)
theorem sl_Index (A : Option Addr) (l : List K2) (cap : Nat) (k : K2) (w : World) (hz : l.length ≤ 9223372036854775807) (hr : KRow w A l) : Calls Try.prog 61 #[.slice A l.length cap, (.agg #[.int .i64 (k).c, .int .i64 (k).i])] w fun e w' => e = .returned (.int .i64 (atP l k)) ∧ Below w.heap.size w w' := by
  go_enter Try.func61, Try.ntmps61
  go_wp2
  go_loopw [5, 8] (fun q i wr => ∃ j : Nat, j ≤ l.length ∧ i = .int .i64 j ∧ Hid (∀ i, i < j → atK l i ≠ k) ∧ Below (w.alloc (.cells #[.int .i64 k.c, .int .i64 k.i] 62)).heap.size (w.alloc (.cells #[.int .i64 k.c, .int .i64 k.i] 62)) wr) (fun _ i _ => l.length - (intOf i).toNat)
  case atStart => exact ⟨0, by omega, rfl, Lib.hid (fun i hi => by omega), by (repeat (first | (with_reducible exact Below.refl _ _) | ((with_reducible refine Below.alloc ?_ ?hB _); (case hB => (first | omega | (simp; done) | (simp; omega)))) | ((with_reducible refine Below.setCell ?_ ?hB _); (case hB => (first | omega | (simp; done) | (simp; omega)))) | (with_reducible refine Below.drew ?_) | ((with_reducible refine below_ext_of ?_ ?hB); (case hB => (first | omega | (simp; done) | (simp; omega)))) | ((with_reducible refine Below.trans ?_ (Below.mono (by assumption) ?hB)); (case hB => (first | omega | (simp; done) | (simp; omega))))))⟩
  case round =>
    obtain ⟨j, hj, rfl, hne, hbr⟩ := hrel
    have hzr := hbr.size
    simp only [World.size_alloc] at hzr
    obtain ⟨hcr, hfr⟩ := bcell hbr
    by_cases hlt : j < l.length
    · obtain ⟨ad, rfl, f0, f1⟩ := hr j hlt
      have hbw : Below w.heap.size w wr := ((Below.refl _ _).alloc (Nat.le_refl _) _).trans (hbr.mono (by simp))
      have g0 := pw_cell_below hbw f0; have g1 := pw_cell_below hbw f1
      have gx0 := fun x => pw_cell_below (below_ext wr x) g0
      have gx1 := fun x => pw_cell_below (below_ext wr x) g1
      clear f0 f1 hbw
      by_cases he : atK l j = k
      · have HR := Lib.hid (atP_here hlt hne.out he)
        rw [he] at g0 g1 gx0 gx1
        have ek : kEq k.c k.i k.c k.i = true := by rw [kEq_iff]; simp
        clear he hne hr
        go_wp2
        (refine wp_region_ext_lit (by kernel_rfl) (by kernel_rfl) ?_; (repeat (go_big_quiet_step ((fail)))); refine wpQuiet_nil ?_; intro w2 hb_w2; obtain ⟨hc_w2, hf_w2⟩ := bcell hb_w2; have hz_w2 := hb_w2.size; (try simp only [World.size_alloc, World.size_setCell, World.size_drew] at hz_w2))
        go_wp2
        (go_ret; refine ⟨?_, by (repeat (first | (with_reducible exact Below.refl _ _) | ((with_reducible refine Below.alloc ?_ ?hB _); (case hB => (first | omega | (simp; done) | (simp; omega)))) | ((with_reducible refine Below.setCell ?_ ?hB _); (case hB => (first | omega | (simp; done) | (simp; omega)))) | (with_reducible refine Below.drew ?_) | ((with_reducible refine below_ext_of ?_ ?hB); (case hB => (first | omega | (simp; done) | (simp; omega)))) | ((with_reducible refine Below.trans ?_ (Below.mono (by assumption) ?hB)); (case hB => (first | omega | (simp; done) | (simp; omega))))))⟩); rw [HR.out]; rfl
      · have HN := Lib.hid (ne_step hne.out he)
        have ek : kEq k.c k.i (atK l j).c (atK l j).i = false := by rw [kEq_iff]; simp [Ne.symm he]
        clear he hne hr
        generalize atK l j = x at *
        go_wp2
        (refine wp_region_ext_lit (by kernel_rfl) (by kernel_rfl) ?_; (repeat (go_big_quiet_step ((fail)))); refine wpQuiet_nil ?_; intro w2 hb_w2; obtain ⟨hc_w2, hf_w2⟩ := bcell hb_w2; have hz_w2 := hb_w2.size; (try simp only [World.size_alloc, World.size_setCell, World.size_drew] at hz_w2))
        go_wp2
        go_roundw
        case rel => exact ⟨j + 1, by omega, by go_num, HN, by (repeat (first | (with_reducible exact Below.refl _ _) | ((with_reducible refine Below.alloc ?_ ?hB _); (case hB => (first | omega | (simp; done) | (simp; omega)))) | ((with_reducible refine Below.setCell ?_ ?hB _); (case hB => (first | omega | (simp; done) | (simp; omega)))) | (with_reducible refine Below.drew ?_) | ((with_reducible refine below_ext_of ?_ ?hB); (case hB => (first | omega | (simp; done) | (simp; omega)))) | ((with_reducible refine Below.trans ?_ (Below.mono (by assumption) ?hB)); (case hB => (first | omega | (simp; done) | (simp; omega))))))⟩
        case measure => simp [intOf]; omega
    · obtain rfl : j = l.length := by omega
      have HR := Lib.hid (atP_none hne.out)
      clear hne
      go_wp2
      (go_ret; refine ⟨?_, by (repeat (first | (with_reducible exact Below.refl _ _) | ((with_reducible refine Below.alloc ?_ ?hB _); (case hB => (first | omega | (simp; done) | (simp; omega)))) | ((with_reducible refine Below.setCell ?_ ?hB _); (case hB => (first | omega | (simp; done) | (simp; omega)))) | (with_reducible refine Below.drew ?_) | ((with_reducible refine below_ext_of ?_ ?hB); (case hB => (first | omega | (simp; done) | (simp; omega)))) | ((with_reducible refine Below.trans ?_ (Below.mono (by assumption) ?hB)); (case hB => (first | omega | (simp; done) | (simp; omega))))))⟩); rw [HR.out]; rfl
theorem own_emptyK (W : World) (base : Nat) (t : TypeId) (h : base ≤ W.heap.size) : OwnK (W.alloc (.cells #[] t)) base t (.slice (some ⟨W.heap.size, 0, none⟩) 0 0) [] :=
  ⟨rfl, .inr ⟨W.heap.size, 0, #[], rfl, h, heap_alloc_new W _, Nat.le_refl _, by unfold maxLen; omega, rfl, rfl⟩⟩
theorem sl_CloneK (A : Option Addr) (l : List K2) (c : Nat) (w : World) (hl : l.length ≤ 1000000) (hr : KR w A l c) : Calls Try.prog 62 #[.slice A l.length c] w (RowP w 62 l) := by
  cases A with
  | none =>
    obtain rfl : l = [] := List.eq_nil_of_length_eq_zero (by have := hr.le; have := hr.nil rfl; omega)
    obtain rfl := hr.nil rfl
    have he : ∀ w, (binOp .eql 68 (.slice none 0 0) (.slice none 0 0)).run Try.prog w = .ok (.bool true) w := fun w => by kernel_rfl
    simp only [List.length_nil]
    go_enter Try.func62, Try.ntmps62
    go_wp2
    go_ret
    exact ⟨_, rfl, OwnK.nil _ _ _, Below.refl _ _⟩
  | some ad =>
    have he : ∀ w, (binOp .eql 68 (.slice (some ad) l.length c) (.slice none 0 0)).run Try.prog w = .ok (.bool false) w := fun w => by kernel_rfl
    have hR := fun w' (hb : Below w.heap.size w w') => KR.below hr hb
    clear hr
    go_enter Try.func62, Try.ntmps62
    go_wp2_with (first | (at_builtin; refine append_rowK (w0 := w) w.heap.size rfl rfl Try.underlying68 info_s _ [] l (some ad) c rfl rfl (own_emptyK _ _ _ (Nat.le_refl _)) (hR _ ?_) ?_ ?_ ?_ ?_; (focus ((repeat (first | (with_reducible exact Below.refl _ _) | ((with_reducible refine Below.alloc ?_ ?hB _); (case hB => (first | omega | (simp; done) | (simp; omega)))) | ((with_reducible refine Below.setCell ?_ ?hB _); (case hB => (first | omega | (simp; done) | (simp; omega)))) | (with_reducible refine Below.drew ?_) | ((with_reducible refine below_ext_of ?_ ?hB); (case hB => (first | omega | (simp; done) | (simp; omega)))) | ((with_reducible refine Below.trans ?_ (Below.mono (by assumption) ?hB)); (case hB => (first | omega | (simp; done) | (simp; omega)))))); done)); (focus ((repeat (first | (with_reducible exact Below.refl _ _) | ((with_reducible refine Below.alloc ?_ ?hB _); (case hB => (first | omega | (simp; done) | (simp; omega)))) | ((with_reducible refine Below.setCell ?_ ?hB _); (case hB => (first | omega | (simp; done) | (simp; omega)))) | (with_reducible refine Below.drew ?_) | ((with_reducible refine below_ext_of ?_ ?hB); (case hB => (first | omega | (simp; done) | (simp; omega)))) | ((with_reducible refine Below.trans ?_ (Below.mono (by assumption) ?hB)); (case hB => (first | omega | (simp; done) | (simp; omega)))))); done)); (focus ((first | omega | (simp; done) | (simp; omega)); done)); (focus (simp; omega)); intro v3 w3 hown3 hb3 _ _; have hz3 := hb3.size; rw [List.nil_append] at hown3))
    go_ret
    exact ⟨_, rfl, hown3, hb3⟩
/-- What is free of a stack: not its block, nor its keys' one. -/
def Free (w : World) (p k : Nat) : Prop := k ≠ p ∧ ∀ v t f, w.heap[p]? = some (.cells #[v] t f) → v.ownBlock ≠ some k
def Keeps (p : Nat) (w w' : World) : Prop := w.heap.size ≤ w'.heap.size ∧ ∀ k, k < w.heap.size → Free w p k → w'.heap[k]? = w.heap[k]? ∧ Free w' p k
theorem Keeps.trans {p : Nat} {w w1 w2 : World} (h : Keeps p w w1) (k : Keeps p w1 w2) : Keeps p w w2 :=
  ⟨Nat.le_trans h.1 k.1, fun j hj hf => by
    obtain ⟨h1, h2⟩ := h.2 j hj hf
    obtain ⟨k1, k2⟩ := k.2 j (Nat.lt_of_lt_of_le hj h.1) h2
    exact ⟨k1.trans h1, k2⟩⟩
theorem Keeps.below {p : Nat} {w w1 : World} (h : Below w.heap.size w w1) (hp : p < w.heap.size) : Keeps p w w1 :=
  ⟨h.size, fun j hj hf => ⟨h.block j hj, hf.1, fun v t f hv => hf.2 v t f (by rw [← h.block p hp]; exact hv)⟩⟩
theorem Keeps.row {p : Nat} {w w1 : World} (h : Keeps p w w1) {A : Option Addr} {l : List K2} (hr : KRow w A l) (hf : ∀ ad, A = some ad → Free w p ad.block) : KRow w1 A l := by
  intro i hi
  obtain ⟨ad, rfl, h0, h1⟩ := hr i hi
  have hb : (ad.add (i * 2)).block = ad.block := by unfold Addr.add; split <;> rfl
  have hlt : ad.block < w.heap.size := by rw [← hb]; exact World.block_lt_of_cell? w _ h0
  have hk := (h.2 _ hlt (hf _ rfl)).1
  exact ⟨ad, rfl, (World.cell?_of_block (a := ad.add (i * 2)) (by rw [hb]; exact hk)).trans h0, (World.cell?_of_block (a := ⟨(ad.add (i * 2)).block, (ad.add (i * 2)).off + 1, none⟩) (by show w1.heap[(ad.add (i * 2)).block]? = w.heap[(ad.add (i * 2)).block]?; rw [hb]; exact hk)).trans h1⟩
/-- A stack of keys, from the lowest on: no key twice. -/
structure Stk (w : World) (p : Nat) (l : List K2) : Prop where
  lt : p < w.heap.size
  nodup : l.Nodup
  cell : ∃ v, w.heap[p]? = some (.cells #[v] 102 (0, 0)) ∧ OwnK w (p + 1) 62 v l
theorem Stk.below {w w1 : World} {p : Nat} {l : List K2} (h : Stk w p l) (hb : Below w.heap.size w w1) : Stk w1 p l := by
  obtain ⟨v, h1, h2⟩ := h.cell
  exact ⟨Nat.lt_of_lt_of_le h.lt hb.size, h.nodup, v, (hb.block p h.lt).trans h1, h2.below hb⟩
theorem Stk.open_ {w : World} {p : Nat} {l : List K2} (h : Stk w p l) : ∃ A c, w.heap[p]? = some (.cells #[.slice A l.length c] 102 (0, 0)) ∧ OwnK w (p + 1) 62 (.slice A l.length c) l ∧ KR w A l c := by
  obtain ⟨v, h1, h2⟩ := h.cell
  obtain ⟨A, c, rfl, hk⟩ := h2.kr
  exact ⟨A, c, h1, h2, hk⟩
theorem cell_one {w : World} {p : Nat} {v : Value} {t : TypeId} (h : w.heap[p]? = some (.cells #[v] t (0, 0))) : w.cell? ⟨p, 0, none⟩ = some v := by simp [World.cell?, h]
theorem stk_At (p : Nat) (l : List K2) (k : K2) (w : World) (hl : l.length ≤ 100000) (h : Stk w p l) : Calls Try.prog 36 #[.pointer (some ⟨p, 0, none⟩), (.agg #[.int .i64 (k).c, .int .i64 (k).i])] w fun e w' => e = .returned (.int .i64 (atP l k)) ∧ Below w.heap.size w w' := by
  obtain ⟨A, c, h1, h2, h3⟩ := h.open_
  have hlt := h.lt
  have hc := cell_one h1
  have hrow := fun w' (hb : Below w.heap.size w w') => h3.row.below hb
  have cI := fun w (h : KRow w A l) => sl_Index A l c k w (by omega) h
  clear h h1 h2 h3
  obtain ⟨r, hr⟩ : ∃ r, atP l k = r := ⟨_, rfl⟩
  rw [hr] at cI ⊢
  clear hr
  go_enter Try.func36, Try.ntmps36
  go_wp2
  (refine wp_region_ext_lit (by kernel_rfl) (by kernel_rfl) ?_; (repeat (go_big_quiet_step ((first | (go_at_call 61; with_reducible exact ext_call (cI _ (hrow _ (by (repeat (first | (with_reducible exact Below.refl _ _) | ((with_reducible refine Below.alloc ?_ ?hB _); (case hB => (first | omega | (simp; done) | (simp; omega)))) | ((with_reducible refine Below.setCell ?_ ?hB _); (case hB => (first | omega | (simp; done) | (simp; omega)))) | (with_reducible refine Below.drew ?_) | ((with_reducible refine below_ext_of ?_ ?hB); (case hB => (first | omega | (simp; done) | (simp; omega)))) | ((with_reducible refine Below.trans ?_ (Below.mono (by assumption) ?hB)); (case hB => (first | omega | (simp; done) | (simp; omega)))))))))))))); refine wpQuiet_nil ?_; intro w2 hb_w2; obtain ⟨hc_w2, hf_w2⟩ := bcell hb_w2; have hz_w2 := hb_w2.size; (try simp only [World.size_alloc, World.size_setCell, World.size_drew] at hz_w2))
  go_wp2
  (go_ret; refine ⟨?_, by (repeat (first | (with_reducible exact Below.refl _ _) | ((with_reducible refine Below.alloc ?_ ?hB _); (case hB => (first | omega | (simp; done) | (simp; omega)))) | ((with_reducible refine Below.setCell ?_ ?hB _); (case hB => (first | omega | (simp; done) | (simp; omega)))) | (with_reducible refine Below.drew ?_) | ((with_reducible refine below_ext_of ?_ ?hB); (case hB => (first | omega | (simp; done) | (simp; omega)))) | ((with_reducible refine Below.trans ?_ (Below.mono (by assumption) ?hB)); (case hB => (first | omega | (simp; done) | (simp; omega))))))⟩); rfl
theorem stk_All (p : Nat) (l : List K2) (w : World) (hl : l.length ≤ 100000) (h : Stk w p l) : Calls Try.prog 39 #[.pointer (some ⟨p, 0, none⟩)] w (RowP w 62 l) := by
  obtain ⟨A, c, h1, h2, h3⟩ := h.open_
  have hlt := h.lt
  have hc := cell_one h1
  clear h h1 h2
  go_enter Try.func39, Try.ntmps39
  go_wp2_with (first | (go_at_call 62; (with_reducible refine (sl_CloneK _ _ _ _ (by omega) h3).mono ?_); rintro e w1 ⟨v1, rfl, ho1, hb1⟩))
  go_ret
  exact ⟨_, rfl, ho1, hb1⟩
end Go.Proofs.Yteldbnelfeiifaa
