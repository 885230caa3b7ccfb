/- Keys of a client, told one by one, and put away. -/
import Derived.Test.YteldbnelfeiifaaStkZb
namespace Go.Proofs.Yteldbnelfeiifaa
open Go.RowKit Go.Proofs.YteldbnelfeiifaaW.PrintWords
set_option linter.unusedSimpArgs false
set_option linter.unusedVariables false
set_option maxRecDepth 1000000
attribute [local go_sem high] eqK eqKS
structure Da (w : World) (b5 : Nat) (v : Value) (m : List K2) : Prop where
  blk : w.heap[b5]? = some (.cells #[v] 68 (0, 0))
  own : OwnK w (b5 + 1) 62 v m
theorem Da.below {w w1 : World} {b5 : Nat} {v : Value} {m : List K2} (h : Da w b5 v m) (hb : Below w.heap.size w w1) : Da w1 b5 v m := ⟨(hb.block b5 (blk_lt h.blk)).trans h.blk, h.own.below hb⟩
def DaP (w : World) (b5 : Nat) (v : Value) (k : K2) (c : Int) (m : List K2) (e : Ending) (w' : World) : Prop := ∃ v', e = .returned (.bool (decide (k.c = c))) ∧ Below b5 w w' ∧ Da w' b5 v' (m ++ goneA [k] c) ∧ ∀ j, j < w.heap.size → j ≠ b5 → v.ownBlock ≠ some j → w'.heap[j]? = w.heap[j]?
theorem da_fn (b3 b5 : Nat) (c : Int) (k : K2) (m : List K2) (v : Value) (w : World) (h3 : w.heap[b3]? = some (.cells #[.int .i64 c] 3 (0, 0))) (h5 : Da w b5 v m) (h35 : b3 < b5) (hm : m.length ≤ 10000) :
    Calls Try.prog 85 #[(.agg #[.int .i64 (k).c, .int .i64 (k).i]), (.pointer (some ⟨b3, 0, none⟩)), (.pointer (some ⟨b5, 0, none⟩))] w (DaP w b5 v k c m) := by
  have c3 := cell_one h3
  have c5 := cell_one h5.blk
  have f5 := blk_frozen h5.blk 0
  have hl5 := blk_lt h5.blk
  have hl3 := blk_lt h3
  have hO := h5.own
  obtain ⟨A, cv, rfl, hkv⟩ := hO.kr
  clear hkv
  have H5 := Lib.hid h5
  have H3 := Lib.hid h3
  clear h5 h3
  obtain ⟨kc, ki⟩ := k
  by_cases he : kc = c
  · have HG := Lib.hid (show decide (kc = c) = true ∧ goneA [(⟨kc, ki⟩ : K2)] c = [⟨kc, ki⟩] from ⟨decide_eq_true he, by simp [goneA, he]⟩)
    subst he
    have hO := Lib.hid hO
    go_enter Try.func85, Try.ntmps85
    go_wp2_with (first | ((at_builtin; refine print_append_cells (w0 := w) (b5 + 1) rfl _ _ 68 62 _ 2 16 rfl Try.underlying68 info_s rfl (by decide) (by decide) _ _ _ [.int .i64 ((⟨kc, ki⟩ : K2)).c, .int .i64 ((⟨kc, ki⟩ : K2)).i] rfl ?_ rfl ?_ (OwnK.below hO.out ?_) ?_ ?_ ?_ ?_; (focus (go_simp; done)); (focus (simp [Value.oneCell']; done)); (focus ((repeat (first | (with_reducible exact Below.refl _ _) | ((with_reducible refine Below.alloc ?_ ?hB _); (case hB => (first | omega | (simp; done) | (simp; omega)))) | ((with_reducible refine Below.setCell ?_ ?hB _); (case hB => (first | omega | (simp; done) | (simp; omega)))) | (with_reducible refine Below.drew ?_) | ((with_reducible refine below_ext_of ?_ ?hB); (case hB => (first | omega | (simp; done) | (simp; omega)))) | ((with_reducible refine Below.trans ?_ (Below.mono (by assumption) ?hB)); (case hB => (first | omega | (simp; done) | (simp; omega)))))); done)); (focus ((repeat (first | (with_reducible exact Below.refl _ _) | ((with_reducible refine Below.alloc ?_ ?hB _); (case hB => (first | omega | (simp; done) | (simp; omega)))) | ((with_reducible refine Below.setCell ?_ ?hB _); (case hB => (first | omega | (simp; done) | (simp; omega)))) | (with_reducible refine Below.drew ?_) | ((with_reducible refine below_ext_of ?_ ?hB); (case hB => (first | omega | (simp; done) | (simp; omega)))) | ((with_reducible refine Below.trans ?_ (Below.mono (by assumption) ?hB)); (case hB => (first | omega | (simp; done) | (simp; omega)))))); done)); (focus ((first | omega | (simp; done) | (simp; omega)); done)); (focus omega); intro v6 w6 hown6 hb6 hg6 hat6; have hz6 := hb6.size; (try simp only [World.size_alloc, World.size_setCell, World.size_drew] at hz6)); have q0 : w6.cell? ⟨w.heap.size, 0, none⟩ = some (.int .i64 kc) := hg6.cell (by go_simp) (fun e => Nat.lt_irrefl _ (hO.out.lt _ e.symm)); have q3 : w6.cell? ⟨b3, 0, none⟩ = some (.int .i64 kc) := cell_one ((hb6.block b3 (by omega)).trans H3.out); have d5 := (hb6.block b5 (by omega)).trans H5.out.blk; have q5 := cell_one d5; have r5 := blk_frozen d5 0; replace d5 := Lib.hid d5; have ok6 := OwnK.snoc hown6; obtain ⟨A6, e6, rfl, hk6⟩ := ok6.kr; clear hown6 hk6; rw [show (m ++ [(⟨kc, ki⟩ : K2)]).length = m.length + 1 from (by simp)] at ok6; replace ok6 := Lib.hid ok6))
    go_ret
    unfold DaP
    rw [HG.out.2]
    have ho := ok6.out
    refine ⟨_, by simp, (hb6.mono (show b5 ≤ b5 + 1 by omega)).setCell (p := ⟨b5, 0, none⟩) (Nat.le_refl _) _, ⟨blk_set d5.out 0 _, own_setCell ho (fun e => by have := (World.ownsRow.lt ho b5 e.symm).1; omega) _⟩, fun j hj hj5 hjv => (heap_set_ne w6 ⟨b5, 0, none⟩ _ j hj5).trans ((hg6.block j (by simp; omega) (fun e => hjv e.symm)).trans (Below.heap_alloc w _ j hj))⟩
  · have HG := Lib.hid (show decide (kc = c) = false ∧ goneA [(⟨kc, ki⟩ : K2)] c = [] from ⟨decide_eq_false he, by simp [goneA, he]⟩)
    go_enter Try.func85, Try.ntmps85
    go_wp2
    go_ret
    unfold DaP
    rw [HG.out.1, HG.out.2, List.append_nil]
    have hb : Below w.heap.size w (w.alloc (.cells #[.int .i64 kc, .int .i64 ki] 62)) := by (repeat (first | (with_reducible exact Below.refl _ _) | ((with_reducible refine Below.alloc ?_ ?hB _); (case hB => (first | omega | (simp; done) | (simp; omega)))) | ((with_reducible refine Below.setCell ?_ ?hB _); (case hB => (first | omega | (simp; done) | (simp; omega)))) | (with_reducible refine Below.drew ?_) | ((with_reducible refine below_ext_of ?_ ?hB); (case hB => (first | omega | (simp; done) | (simp; omega)))) | ((with_reducible refine Below.trans ?_ (Below.mono (by assumption) ?hB)); (case hB => (first | omega | (simp; done) | (simp; omega))))))
    exact ⟨_, rfl, hb.mono (by omega), H5.out.below hb, fun j hj _ _ => hb.block j hj⟩
def IfP (w : World) (b5 : Nat) (l : List K2) (c : Int) (e : Ending) (w' : World) : Prop := ∃ v', Below b5 w w' ∧ ((dropA l c = l ∧ e = .returned (.int .i64 (-1)) ∧ Da w' b5 v' (goneA l c)) ∨ (∃ i : Nat, i < l.length ∧ (atK l i).c = c ∧ dropA (l.take i) c = l.take i ∧ e = .returned (.int .i64 i) ∧ Da w' b5 v' (goneA (l.take (i + 1)) c)))
theorem gone_none {l : List K2} {c : Int} (h : dropA l c = l) : goneA l c = [] := by
  unfold dropA at h
  unfold goneA
  rw [List.filter_eq_self] at h
  rw [List.filter_eq_nil_iff]
  intro x hx
  have := h x hx
  simpa using this
set_option maxHeartbeats 1000000 in
theorem sl_IndexFunc (b3 b5 : Nat) (c : Int) (A : Option Addr) (l : List K2) (cap : Nat) (v : Value) (w : World) (hl : l.length ≤ 10000) (hr : KRow w A l) (hA : ∀ ad, A = some ad → ad.block < b5) (h3 : w.heap[b3]? = some (.cells #[.int .i64 c] 3 (0, 0))) (h5 : Da w b5 v []) (h35 : b3 < b5) :
    Calls Try.prog 99 #[.slice A l.length cap, .func (.func 85) #[] #[(.pointer (some ⟨b3, 0, none⟩)), (.pointer (some ⟨b5, 0, none⟩))]] w (IfP w b5 l c) := by
  have H3 := Lib.hid h3
  have H5 := Lib.hid h5
  have HA := Lib.hid hA
  have HR := Lib.hid hr
  clear h3 h5 hA hr
  go_enter Try.func99, Try.ntmps99
  go_wp2
  go_loopw [8] (fun i wr => ∃ (j : Nat) (v1 : Value), j ≤ l.length ∧ i = .int .i64 j ∧ Below b5 w wr ∧ Hid (Da wr b5 v1 []) ∧ Hid (dropA (l.take j) c = l.take j)) (fun i _ => l.length - (intOf i).toNat)
  case atStart => exact ⟨0, v, by omega, rfl, Below.refl _ _, H5, Lib.hid (by simp [dropA])⟩
  case round =>
    obtain ⟨j, v1, hj, rfl, hbr, hda, hdr⟩ := hrel
    have hzr := hbr.size
    by_cases hlt : j < l.length
    · obtain ⟨ad, rfl, f0, f1⟩ := HR.out j hlt
      have had := HA.out ad rfl
      have g0 := (hbr.cell (p := ad.add (j * 2)) (by rw [add_block]; exact had)).trans f0
      have g1 := (hbr.cell (p := ⟨(ad.add (j * 2)).block, (ad.add (j * 2)).off + 1, none⟩) (by show (ad.add (j * 2)).block < b5; rw [add_block]; exact had)).trans f1
      have HD := Lib.hid (dropA_take l c j hlt)
      have HG := Lib.hid (goneA_take l c j hlt)
      have HT := Lib.hid (takeK l j hlt)
      clear f0 f1
      have cF := da_fn b3 b5 c (atK l j) [] v1 wr ((hbr.block b3 h35).trans H3.out) hda.out h35 (by simp)
      obtain ⟨k, hk⟩ : ∃ k, atK l j = k := ⟨_, rfl⟩
      have HK := Lib.hid hk
      rw [hk] at cF g0 g1 HD HG HT
      clear hk
      unfold DaP at cF
      by_cases he : k.c = c
      · rw [decide_eq_true he] at cF
        have HE := Lib.hid he
        clear he
        go_wp2_with (first | (go_at_call 85; (with_reducible refine cF.mono ?_); rintro e w5 ⟨v5, rfl, hb5, hd5, _⟩; replace hd5 := Lib.hid hd5))
        go_ret
        have hg0 : goneA (l.take j) c = [] := gone_none hdr.out
        exact ⟨v5, hbr.trans hb5, .inr ⟨j, hlt, by rw [HK.out]; exact HE.out, hdr.out, rfl, by rw [HG.out, if_pos HE.out, hg0]; have := hd5.out; simp only [goneA, List.filter_cons, HE.out, decide_true, if_true, List.filter_nil] at this; exact this⟩⟩
      · rw [decide_eq_false he] at cF
        have HE := Lib.hid he
        clear he
        go_wp2_with (first | (go_at_call 85; (with_reducible refine cF.mono ?_); rintro e w5 ⟨v5, rfl, hb5, hd5, _⟩; replace hd5 := Lib.hid hd5))
        go_roundw
        case rel => exact ⟨j + 1, v5, by omega, by go_num, hbr.trans hb5, Lib.hid (by have := hd5.out; rwa [show goneA [k] c = [] from by simp [goneA, HE.out], List.append_nil] at this), Lib.hid (by rw [HD.out, if_neg HE.out, hdr.out, HT.out])⟩
        case measure => simp [intOf]; omega
    · obtain rfl : j = l.length := by omega
      rw [List.take_length] at hdr
      go_wp2
      go_ret
      exact ⟨v1, hbr, .inl ⟨hdr.out, rfl, by rw [gone_none hdr.out]; exact hda.out⟩⟩
end Go.Proofs.Yteldbnelfeiifaa
