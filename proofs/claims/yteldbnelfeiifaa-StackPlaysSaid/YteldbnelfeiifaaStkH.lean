/- A key dropped from a stack, walked. -/
import Derived.Test.YteldbnelfeiifaaStkG
namespace Go.Proofs.Yteldbnelfeiifaa
open Go.RowKit Go.Proofs.YteldbnelfeiifaaW.PrintWords
set_option linter.unusedSimpArgs false
set_option linter.unusedVariables false
set_option maxRecDepth 1000000
attribute [local go_sem high] eqK eqKS
theorem OwnK.form {w : World} {base : Nat} {t : TypeId} {v : Value} {l : List K2} (h : OwnK w base t v l) (hl : 0 < l.length) : ∃ g cap rest, v = .slice (some ⟨g, 0, none⟩) l.length cap ∧ base ≤ g ∧ w.heap[g]? = some (.cells (flatK l ++ rest).toArray t (0, 0)) ∧ l.length ≤ cap ∧ cap ≤ 9223372036854775807 ∧ (flatK l ++ rest).length = cap * 2 := by
  rcases h.2 with ⟨_, h0⟩ | ⟨g, cap, cur, hv, hb, hh, h1, h2, h3, h4⟩
  · omega
  · have e : cur = (flatK l ++ cur.toList.drop (l.length * 2)).toArray := by rw [← h4, List.take_append_drop]
    exact ⟨g, cap, cur.toList.drop (l.length * 2), hv, hb, by rw [← e]; exact hh, h1, by unfold maxLen at h2; omega, by rw [← h4, List.take_append_drop]; simpa using h3⟩
theorem OwnK.mk {w : World} {base : Nat} {t : TypeId} {l : List K2} {g cap : Nat} {rest : List Value} (hb : base ≤ g) (hh : w.heap[g]? = some (.cells (flatK l ++ rest).toArray t (0, 0))) (hc : l.length ≤ cap) (hm : cap ≤ 9223372036854775807) (hs : (flatK l ++ rest).length = cap * 2) : OwnK w base t (.slice (some ⟨g, 0, none⟩) l.length cap) l :=
  ⟨flatK_len l, .inr ⟨g, cap, _, rfl, hb, hh, hc, by unfold maxLen; omega, by simpa using hs, by simp only [List.toList_toArray]; rw [← flatK_len, List.take_left]⟩⟩
/-- What is to be stored as a stack's keys. -/
def PutP (w : World) (p : Nat) (old : Value) (l : List K2) (e : Ending) (w' : World) : Prop := ∃ A c n, e = .returned (.slice A n c) ∧ w'.cell? ⟨p, 0, none⟩ = some old ∧ w'.frozen? ⟨p, 0, none⟩ = false ∧ StkP w p l (w'.setCell ⟨p, 0, none⟩ (.slice A n c))
theorem sl_DeleteS (p : Nat) (l a b : List K2) (k : K2) (A : Option Addr) (c n i : Nat) (w : World) (hn : l.length = n) (hi : a.length = i) (hl : l = a ++ ([k] ++ b)) (hp : w.heap[p]? = some (.cells #[.slice A l.length c] 102 (0, 0))) (HO : OwnK w (p + 1) 62 (.slice A l.length c) l) (hnd : l.Nodup) :
    Calls Try.prog 67 #[.slice A n c, .int .i64 i, .int .i64 (i + 1)] w (PutP w p (.slice A l.length c) (a ++ b)) := by
  have hlen : l.length = i + b.length + 1 := by rw [hl, ← hi]; simp; omega
  obtain ⟨g, cap, rest, hv, hb, hh, h1, h2, h3⟩ := HO.form (by omega)
  injection hv with hv1 _ hv2
  subst hv1 hv2
  have ef : flatK l ++ rest = flatK a ++ (flatK [k] ++ (flatK b ++ rest)) := by rw [hl, flatK_append, flatK_append]; simp
  have hD := sl_Delete g c i (i + b.length) b.length a b k rest w hi rfl rfl (by omega) h2 (by rw [← ef]; exact hh) (by rw [← ef]; exact h3)
  rw [← hn, hlen]
  refine hD.mono fun e w' hd => ?_
  obtain ⟨rfl, hgr, T, hT, hg2⟩ := hd
  have hab : (a ++ b).length = i + b.length := by rw [List.length_append, hi]
  have hO2 : OwnK w' (p + 1) 62 (.slice (some ⟨g, 0, none⟩) (a ++ b).length c) (a ++ b) := by
    refine OwnK.mk hb (rest := T) (by rw [flatK_append]; exact hg2) (by omega) h2 ?_
    have e1 := flatK_len l
    have e2 := flatK_len (a ++ b)
    simp only [List.length_append, hT] at h3 e2 ⊢
    omega
  have hblk := Stk.block3 hp HO hgr
  have hu := Stk.update hp HO hgr hO2 (.inl rfl) (by
    rw [hl] at hnd
    refine List.Nodup.sublist ?_ hnd
    exact List.Sublist.append (List.Sublist.refl a) (List.sublist_append_right [k] b))
  refine ⟨some ⟨g, 0, none⟩, c, (a ++ b).length, by rw [hab], ?_, blk_frozen hblk 0, hu⟩
  rw [← hlen]; exact cell_one hblk
theorem dropL_split {l a b : List K2} {k : K2} (hl : l = a ++ ([k] ++ b)) (hnd : l.Nodup) : dropL l k = a ++ b := by
  subst hl
  unfold dropL
  rw [List.nodup_append] at hnd
  obtain ⟨_, h2, h3⟩ := hnd
  have hkb : k ∉ b := by simp at h2; exact h2.1
  have hka : k ∉ a := fun h => h3 k h k (by simp) rfl
  have fa : a.filter (fun x => decide (x ≠ k)) = a := List.filter_eq_self.2 (fun x hx => by simp; intro e; exact hka (e ▸ hx))
  have fb : b.filter (fun x => decide (x ≠ k)) = b := List.filter_eq_self.2 (fun x hx => by simp; intro e; exact hkb (e ▸ hx))
  rw [List.filter_append, List.filter_append, fa, fb]
  simp
theorem dropL_none {l : List K2} {k : K2} (h : k ∉ l) : dropL l k = l := by
  unfold dropL; exact List.filter_eq_self.2 (fun x hx => by simp; intro e; exact h (e ▸ hx))
theorem split_at {l : List K2} {k : K2} (h : k ∈ l) : ∃ a b : List K2, l = a ++ ([k] ++ b) ∧ a.length = l.idxOf k := by
  have hi := List.idxOf_lt_length_iff.2 h
  refine ⟨l.take (l.idxOf k), l.drop (l.idxOf k + 1), ?_, by simp; omega⟩
  have e : l[l.idxOf k] = k := List.getElem_idxOf hi
  rw [List.singleton_append]
  have := List.drop_eq_getElem_cons hi
  rw [e] at this
  rw [← this, List.take_append_drop]
def DropSP (w : World) (p : Nat) (l : List K2) (k : K2) (e : Ending) (w' : World) : Prop := e = .returned (.bool (decide (k ∈ l))) ∧ StkP w p (dropL l k) w'
theorem stk_Drop (p : Nat) (l : List K2) (k : K2) (w : World) (hl : l.length ≤ 10000) (h : Stk w p l) : Calls Try.prog 45 #[(.pointer (some ⟨p, 0, none⟩)), (.agg #[.int .i64 (k).c, .int .i64 (k).i])] w (DropSP w p l k) := by
  have hlt := h.lt
  have cA := fun w (h : Stk w p l) => stk_At p l k w (by omega) h
  have hS := fun w' (hb : Below w.heap.size w w') => Stk.below h hb
  by_cases hk : k ∈ l
  · obtain ⟨a, b, hab, hai⟩ := split_at hk
    obtain ⟨i, hi⟩ : ∃ i, a.length = i := ⟨_, rfl⟩
    have hr : atP l k = (i : Int) := by unfold atP; rw [if_pos hk, ← hai, hi]
    rw [hr] at cA
    have hil : i + 1 ≤ l.length := by rw [hab]; simp; omega
    obtain ⟨A, c, h1, h2, h3⟩ := h.open_
    have hc := cell_one h1
    have HK := Lib.hid (show decide (k ∈ l) = true ∧ dropL l k = a ++ b from ⟨decide_eq_true hk, dropL_split hab h.nodup⟩)
    have cD := fun w1 (hb : Below w.heap.size w w1) => sl_DeleteS p l a b k A c l.length i w1 rfl hi hab ((hb.block p hlt).trans h1) (h2.below hb) h.nodup
    have H := Lib.hid h
    clear hr hk h h1 h2 h3 hab hai hi
    go_enter Try.func45, Try.ntmps45
    go_wp2_with (first | (go_at_call 36; (with_reducible refine (cA _ (hS _ (by (repeat (first | (with_reducible exact Below.refl _ _) | ((with_reducible refine Below.alloc ?_ ?hB _); (case hB => (first | omega | (simp; done) | (simp; omega)))) | ((with_reducible refine Below.setCell ?_ ?hB _); (case hB => (first | omega | (simp; done) | (simp; omega)))) | (with_reducible refine Below.drew ?_) | ((with_reducible refine below_ext_of ?_ ?hB); (case hB => (first | omega | (simp; done) | (simp; omega)))) | ((with_reducible refine Below.trans ?_ (Below.mono (by assumption) ?hB)); (case hB => (first | omega | (simp; done) | (simp; omega))))))))).mono ?_); rintro e w1 ⟨rfl, hb1⟩; obtain ⟨hc1, hf1⟩ := bcell hb1; have hz1 := hb1.size; (try simp only [World.size_alloc, World.size_setCell, World.size_drew] at hz1)) | (go_at_call 67; (with_reducible refine (cD _ ?_).mono ?_); (focus ((repeat (first | (with_reducible exact Below.refl _ _) | ((with_reducible refine Below.alloc ?_ ?hB _); (case hB => (first | omega | (simp; done) | (simp; omega)))) | ((with_reducible refine Below.setCell ?_ ?hB _); (case hB => (first | omega | (simp; done) | (simp; omega)))) | (with_reducible refine Below.drew ?_) | ((with_reducible refine below_ext_of ?_ ?hB); (case hB => (first | omega | (simp; done) | (simp; omega)))) | ((with_reducible refine Below.trans ?_ (Below.mono (by assumption) ?hB)); (case hB => (first | omega | (simp; done) | (simp; omega)))))); done)); rintro e w2 ⟨A2, c2, n2, rfl, cp2, fp2, hS2⟩; have hS2 := Lib.hid hS2))
    go_ret
    unfold DropSP
    rw [HK.out.1, HK.out.2]
    refine ⟨rfl, (StkP.of_below H.out ?_).trans hS2.out⟩
    (repeat (first | (with_reducible exact Below.refl _ _) | ((with_reducible refine Below.alloc ?_ ?hB _); (case hB => (first | omega | (simp; done) | (simp; omega)))) | ((with_reducible refine Below.setCell ?_ ?hB _); (case hB => (first | omega | (simp; done) | (simp; omega)))) | (with_reducible refine Below.drew ?_) | ((with_reducible refine below_ext_of ?_ ?hB); (case hB => (first | omega | (simp; done) | (simp; omega)))) | ((with_reducible refine Below.trans ?_ (Below.mono (by assumption) ?hB)); (case hB => (first | omega | (simp; done) | (simp; omega))))))
  · have HK := Lib.hid (show decide (k ∈ l) = false ∧ dropL l k = l from ⟨decide_eq_false hk, dropL_none hk⟩)
    have hr : atP l k = -1 := by unfold atP; rw [if_neg hk]
    rw [hr] at cA
    have H := Lib.hid h
    clear hr hk h
    go_enter Try.func45, Try.ntmps45
    go_wp2_with (first | (go_at_call 36; (with_reducible refine (cA _ (hS _ (by (repeat (first | (with_reducible exact Below.refl _ _) | ((with_reducible refine Below.alloc ?_ ?hB _); (case hB => (first | omega | (simp; done) | (simp; omega)))) | ((with_reducible refine Below.setCell ?_ ?hB _); (case hB => (first | omega | (simp; done) | (simp; omega)))) | (with_reducible refine Below.drew ?_) | ((with_reducible refine below_ext_of ?_ ?hB); (case hB => (first | omega | (simp; done) | (simp; omega)))) | ((with_reducible refine Below.trans ?_ (Below.mono (by assumption) ?hB)); (case hB => (first | omega | (simp; done) | (simp; omega))))))))).mono ?_); rintro e w1 ⟨rfl, hb1⟩; obtain ⟨hc1, hf1⟩ := bcell hb1; have hz1 := hb1.size; (try simp only [World.size_alloc, World.size_setCell, World.size_drew] at hz1)))
    go_ret
    unfold DropSP
    rw [HK.out.1, HK.out.2]
    exact ⟨rfl, StkP.of_below H.out (by (repeat (first | (with_reducible exact Below.refl _ _) | ((with_reducible refine Below.alloc ?_ ?hB _); (case hB => (first | omega | (simp; done) | (simp; omega)))) | ((with_reducible refine Below.setCell ?_ ?hB _); (case hB => (first | omega | (simp; done) | (simp; omega)))) | (with_reducible refine Below.drew ?_) | ((with_reducible refine below_ext_of ?_ ?hB); (case hB => (first | omega | (simp; done) | (simp; omega)))) | ((with_reducible refine Below.trans ?_ (Below.mono (by assumption) ?hB)); (case hB => (first | omega | (simp; done) | (simp; omega)))))))⟩
end Go.Proofs.Yteldbnelfeiifaa
