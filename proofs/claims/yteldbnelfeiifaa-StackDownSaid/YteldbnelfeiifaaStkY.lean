/- All keys told from the topmost one on, as they were. -/
import Derived.Test.YteldbnelfeiifaaStkX
namespace Go.Proofs.Yteldbnelfeiifaa
open Go.RowKit Go.Shelf Go.Proofs.YteldbnelfeiifaaW.PrintWords
set_option linter.unusedSimpArgs false
set_option linter.unusedVariables false
set_option maxRecDepth 1000000
attribute [local go_sem high] eqK eqKS
attribute [local go_sem] Oper.semAt_some
theorem eqF (d n : Nat) (w : World) (cs : Array Value) : (Op.equalIn (d + 1) 78 (.func (.func n) #[] cs) .nilFunc).run Try.prog w = .ok false w := by
  have hu := Try.underlying78
  unfold Op.equalIn
  simp only [Sem.run_bind, run_underlying hu, Result.andThen_ok]
  rfl
theorem binF (n : Nat) (w : World) (cs : Array Value) : (binOp .eql 78 (.func (.func n) #[] cs) .nilFunc).run Try.prog w = .ok (.bool false) w := by
  have h : (Op.equal 78 (.func (.func n) #[] cs) .nilFunc).run Try.prog w = .ok false w := eqF 9999 n w cs
  simp only [binOp]
  simp [h]
attribute [local go_sem high] eqF binF
theorem not_takeD {m : List K2} (h : m.Nodup) {j : Nat} (hj : j < m.length) : atK m j ∉ m.take j := by
  intro hm
  obtain ⟨i, hi, he⟩ := List.getElem_of_mem hm
  have hij : i < j := by simp at hi; omega
  have hh := atK_ne h hj hij
  rw [List.getElem_take] at he
  rw [kEq_iff, decide_eq_false_iff_not] at hh
  exact hh (by rw [atK_get (by omega)]; exact he)
theorem KR.take {w : World} {A : Option Addr} {l : List K2} {c : Nat} (h : KR w A l c) (j : Nat) (hj : j ≤ l.length) : KR w A (l.take j) c := by
  have h1 := h.le
  refine ⟨by rw [List.length_take]; omega, h.nil, h.max, fun i hi => ?_⟩
  rw [List.length_take] at hi
  obtain ⟨ad, e, c0, c1⟩ := h.row i (by omega)
  have : atK (l.take j) i = atK l i := by rw [atK_get (by rw [List.length_take]; omega), atK_get (by omega)]; simp
  rw [this]
  exact ⟨ad, e, c0, c1⟩
theorem own_base {w : World} {base : Nat} {t : TypeId} {A : Option Addr} {n c : Nat} {l : List K2} (h : OwnK w base t (.slice A n c) l) : ∀ ad, A = some ad → base ≤ ad.block ∧ ad.block < w.heap.size := by
  rintro ad rfl; exact World.ownsRow.lt h ad.block rfl
theorem kpx_a {a b i : Nat} (W : World) (v : Value) : KpX a b W (W.setCell ⟨a, i, none⟩ v) := fun k o ha _ hk _ => (heap_set_ne W ⟨a, i, none⟩ v k ha).trans hk
theorem kpx_b {a b i : Nat} (W : World) (v : Value) : KpX a b W (W.setCell ⟨b, i, none⟩ v) := fun k o _ hb hk _ => (heap_set_ne W ⟨b, i, none⟩ v k hb).trans hk
def DownP (w : World) (l : List K2) (e : Ending) (w' : World) : Prop := ∃ b A c, e = .returned (.func (.func 65) #[] #[(.pointer (some ⟨b, 0, none⟩))]) ∧ w'.heap[b]? = some (.cells #[.slice A l.length c] 68 (0, 0)) ∧ KRow w' A l ∧ w.heap.size ≤ b ∧ (∀ ad, A = some ad → w.heap.size ≤ ad.block ∧ ad.block < w'.heap.size) ∧ Below w.heap.size w w'
theorem stk_Down (p : Nat) (l : List K2) (w : World) (hl : l.length ≤ 10000) (h : Stk w p l) : Calls Try.prog 44 #[(.pointer (some ⟨p, 0, none⟩))] w (DownP w l) := by
  have cL := fun w1 (hb : Below w.heap.size w w1) => stk_All p l w1 (by omega) (h.below hb)
  clear h
  go_enter Try.func44, Try.ntmps44
  go_wp2_with (first | (go_at_call 39; (with_reducible refine (cL _ ?_).mono ?_); (focus ((repeat (first | (with_reducible exact Below.refl _ _) | ((with_reducible refine Below.alloc ?_ ?hB _); (case hB => (first | omega | (simp; done) | (simp; omega)))) | ((with_reducible refine Below.setCell ?_ ?hB _); (case hB => (first | omega | (simp; done) | (simp; omega)))) | (with_reducible refine Below.drew ?_) | ((with_reducible refine below_ext_of ?_ ?hB); (case hB => (first | omega | (simp; done) | (simp; omega)))) | ((with_reducible refine Below.trans ?_ (Below.mono (by assumption) ?hB)); (case hB => (first | omega | (simp; done) | (simp; omega)))))); done)); rintro e w2 ⟨v2, rfl, ho2, hb2⟩; have hz2 := hb2.size; obtain ⟨A2, d2, rfl, hk2⟩ := ho2.kr; have hob := Lib.hid (own_base ho2); clear ho2; replace hk2 := Lib.hid hk2))
  go_ret
  exact ⟨w2.heap.size, A2, d2, rfl, blk_new _ _, hk2.out.row.below (by (repeat (first | (with_reducible exact Below.refl _ _) | ((with_reducible refine Below.alloc ?_ ?hB _); (case hB => (first | omega | (simp; done) | (simp; omega)))) | ((with_reducible refine Below.setCell ?_ ?hB _); (case hB => (first | omega | (simp; done) | (simp; omega)))) | (with_reducible refine Below.drew ?_) | ((with_reducible refine below_ext_of ?_ ?hB); (case hB => (first | omega | (simp; done) | (simp; omega)))) | ((with_reducible refine Below.trans ?_ (Below.mono (by assumption) ?hB)); (case hB => (first | omega | (simp; done) | (simp; omega))))))), hz2, fun ad e => ⟨(hob.out ad e).1, by have := (hob.out ad e).2; simp; omega⟩, by (repeat (first | (with_reducible exact Below.refl _ _) | ((with_reducible refine Below.alloc ?_ ?hB _); (case hB => (first | omega | (simp; done) | (simp; omega)))) | ((with_reducible refine Below.setCell ?_ ?hB _); (case hB => (first | omega | (simp; done) | (simp; omega)))) | (with_reducible refine Below.drew ?_) | ((with_reducible refine below_ext_of ?_ ?hB); (case hB => (first | omega | (simp; done) | (simp; omega)))) | ((with_reducible refine Below.trans ?_ (Below.mono (by assumption) ?hB)); (case hB => (first | omega | (simp; done) | (simp; omega))))))⟩
theorem cell_turn {A A' : World} {row : Option Nat} {ad : Addr} {v : Value} (hg : A.grownBy A' row) (hr : ∀ r, row = some r → ∃ o : Obj, A.heap[r]? = some o ∧ o.isCells = false) (h : A.cell? ad = some v) : A'.cell? ad = some v := by
  obtain ⟨o, ho, hco⟩ := cells_of_cell h
  have h' := turn_cells hg hr ho hco
  unfold World.cell? at h ⊢
  rw [h']; rw [ho] at h; exact h
theorem KRow.turn {A A' : World} {row : Option Nat} {B : Option Addr} {l : List K2} (h : KRow A B l) (hg : A.grownBy A' row) (hr : ∀ r, row = some r → ∃ o : Obj, A.heap[r]? = some o ∧ o.isCells = false) : KRow A' B l := fun i hi => by
  obtain ⟨ad, e, c0, c1⟩ := h i hi
  exact ⟨ad, e, cell_turn hg hr c0, cell_turn hg hr c1⟩
theorem rev_next {m pre : List K2} (h : pre <+: m.reverse) (hl : pre.length < m.length) (x : K2) : pre ++ [x] <+: m.reverse ↔ x = atK m (m.length - 1 - pre.length) := by
  obtain ⟨t, ht⟩ := h
  have hx : atK m (m.length - 1 - pre.length) = (m.reverse)[pre.length]'(by simpa using hl) := by rw [atK_get (by omega), List.getElem_reverse]
  cases t with
  | nil => have := congrArg List.length ht; simp at this; omega
  | cons y t =>
    have hy : (m.reverse)[pre.length]'(by simpa using hl) = y := by simp [← ht]
    rw [hx, hy]
    constructor
    · rintro ⟨s, hs⟩
      rw [← ht, List.append_assoc] at hs
      have := List.append_cancel_left hs
      simpa using (List.cons.inj this).1
    · rintro rfl
      exact ⟨t, by rw [List.append_assoc]; exact ht⟩
set_option maxHeartbeats 4000000 in
theorem walk_StackDown (A : Option Addr) (l : List K2) (c : Nat) (k : K2) (w : World) (hr : KR w A l c) : Calls Try.prog 9 #[.slice A l.length c, (.agg #[.int .i64 (k).c, .int .i64 (k).i])] w fun e w' => e = .returned (.bool true) ∧ Below w.heap.size w w' := by
  have hll := hr.len
  have hlc := hr.le
  have hcm := hr.max
  have HLV := Lib.hid stk_lives
  obtain ⟨j, hj⟩ : ∃ j, min l.length 9 = j := ⟨_, rfl⟩
  have hjl : j ≤ l.length := by omega
  have hj9 : j ≤ 9 := by omega
  have hrt := hr.take j hjl
  have hlt : (l.take j).length = j := by rw [List.length_take]; omega
  have cN := fun w1 (hb : Below w.heap.size w w1) => ref_New A (l.take j) c w1 (by omega) (hrt.below hb)
  have hmm := newL_len (l.take j)
  have hmn := newL_nodup (l.take j)
  obtain ⟨mm, hmq⟩ : ∃ mm, newL (l.take j) = mm := ⟨_, rfl⟩
  rw [hmq] at cN hmm hmn
  rw [hlt] at cN
  have hq : (min (l.length : Int) 9).toNat = j := by omega
  rw [← hq] at cN
  have HND := Lib.hid hmn
  have hm10 : mm.length ≤ 9 := by omega
  have HJ := Lib.hid hj
  clear hmq hmn hmm hr hrt hj hq hlt
  refine (callsIn_wide (n := 8)).1 ?_
  refine callsIn_of_wp_marks Try.func9 rfl trivial ?_ rfl
  simp only [Try.ntmps9, List.size_toArray, List.length_cons, List.length_nil, Nat.reduceAdd, Nat.reduceSub, Array.replicate_succ, Array.replicate_zero, List.push_toArray, List.append_toArray, List.nil_append, List.cons_append]
  gi_wp2_with (first | ((refine ⟨trivial, ?_⟩; gi_at_call 30; (with_reducible refine (callsIn_wide.2 (cN _ ?_)).mono ?_)); (focus ((repeat (first | (with_reducible exact Below.refl _ _) | ((with_reducible refine Below.alloc ?_ ?hB _); (case hB => (first | omega | (simp; done) | (simp; omega)))) | ((with_reducible refine Below.setCell ?_ ?hB _); (case hB => (first | omega | (simp; done) | (simp; omega)))) | (with_reducible refine Below.drew ?_) | ((with_reducible refine below_ext_of ?_ ?hB); (case hB => (first | omega | (simp; done) | (simp; omega)))) | ((with_reducible refine Below.trans ?_ (Below.mono (by assumption) ?hB)); (case hB => (first | omega | (simp; done) | (simp; omega)))))); done)); rintro e w2 ⟨v2, rfl, ho2, hb2⟩; have hz2 := hb2.size; (try simp only [World.size_alloc] at hz2); obtain ⟨B2, d2, rfl, hk2⟩ := ho2.kr; have hob := Lib.hid (own_base ho2); clear ho2; replace hk2 := Lib.hid hk2) | ((refine ⟨trivial, ?_⟩; gi_at_call 31; (with_reducible refine (callsIn_wide.2 (stk_New0 _)).mono ?_)); rintro e w3 ⟨rfl, hs3, hb3⟩; have hz3 := hb3.size; (try simp only [World.size_alloc] at hz3); replace hs3 := Lib.hid hs3))
  simp only [World.size_alloc] at hs3
  obtain ⟨P, hP⟩ : ∃ P, w2.heap.size + 1 = P := ⟨_, rfl⟩
  have bK : w3.heap[w.heap.size]? = some (.cells #[.int .i64 k.c, .int .i64 k.i] 56 (0, 0)) := (hb3.block _ (by simp; omega)).trans (blk_alloc ((hb2.block _ (by simp; omega)).trans (blk_alloc (blk_new _ _) _)) _)
  have bR : w3.heap[w.heap.size + 1]? = some (.cells #[.bool false] 4 (0, 0)) := (hb3.block _ (by simp; omega)).trans (blk_alloc ((hb2.block _ (by simp)).trans (by have := blk_new (w.alloc (.cells #[.int .i64 k.c, .int .i64 k.i] 56)) (.cells #[.bool false] 4); rwa [World.size_alloc] at this)) _)
  have bO : w3.heap[w2.heap.size]? = some (.cells #[.slice B2 mm.length d2] 54 (0, 0)) := (hb3.block _ (by simp)).trans (blk_new _ _)
  have rO : KRow w3 B2 mm := hk2.out.row.below (by (repeat (first | (with_reducible exact Below.refl _ _) | ((with_reducible refine Below.alloc ?_ ?hB _); (case hB => (first | omega | (simp; done) | (simp; omega)))) | ((with_reducible refine Below.setCell ?_ ?hB _); (case hB => (first | omega | (simp; done) | (simp; omega)))) | (with_reducible refine Below.drew ?_) | ((with_reducible refine below_ext_of ?_ ?hB); (case hB => (first | omega | (simp; done) | (simp; omega)))) | ((with_reducible refine Below.trans ?_ (Below.mono (by assumption) ?hB)); (case hB => (first | omega | (simp; done) | (simp; omega)))))))
  have rB : ∀ ad, B2 = some ad → w.heap.size + 2 ≤ ad.block ∧ ad.block < P := fun ad e => by have := hob.out ad e; simp only [World.size_alloc] at this; omega
  have hb03 : Below w.heap.size w w3 := by (repeat (first | (with_reducible exact Below.refl _ _) | ((with_reducible refine Below.alloc ?_ ?hB _); (case hB => (first | omega | (simp; done) | (simp; omega)))) | ((with_reducible refine Below.setCell ?_ ?hB _); (case hB => (first | omega | (simp; done) | (simp; omega)))) | (with_reducible refine Below.drew ?_) | ((with_reducible refine below_ext_of ?_ ?hB); (case hB => (first | omega | (simp; done) | (simp; omega)))) | ((with_reducible refine Below.trans ?_ (Below.mono (by assumption) ?hB)); (case hB => (first | omega | (simp; done) | (simp; omega))))))
  rw [hP] at hs3 hz3 ⊢
  have hOQ : w2.heap.size + 1 = P := hP
  generalize w2.heap.size = o2 at *
  have HB := Lib.hid hb03
  have HRB := Lib.hid rB
  have HRO := Lib.hid rO
  have HBK := Lib.hid bK
  have HBR := Lib.hid bR
  have HBO := Lib.hid bO
  clear hb2 hb3 hk2 hob hb03 rB rO bK bR bO hP
  gi_loopw [7] (fun i wr => ∃ n : Nat, n ≤ mm.length ∧ i = .int .i64 n ∧ Hid (Stk wr P (mm.take n)) ∧ Below P w3 wr) (fun i _ => mm.length - (intOf i).toNat)
  case atStart => exact ⟨0, by omega, rfl, hs3, Below.refl _ _⟩
  case round =>
    obtain ⟨n, hn, rfl, hst, hbq⟩ := hrel
    have hzq := hbq.size
    have cO := cell_one ((hbq.block _ (by omega)).trans HBO.out)
    have hltP := hst.out.lt
    by_cases hnl : n < mm.length
    · obtain ⟨ad2, rfl, f0, f1⟩ := HRO.out n hnl
      have hadP := (HRB.out ad2 rfl).2
      have g0 := (hbq.cell (p := ad2.add (n * 2)) (by rw [add_block]; exact hadP)).trans f0
      have g1 := ((hbq.cell (p := ⟨(ad2.add (n * 2)).block, (ad2.add (n * 2)).off + 1, none⟩) (by show (ad2.add (n * 2)).block < P; rw [add_block]; exact hadP)).trans f1)
      have cX := fun w1 (h : Stk w1 P (mm.take n)) => add_no _ _ (atK mm n) w1 (by simp; omega) h (not_takeD HND.out hnl)
      rw [← takeK mm n hnl] at cX
      clear f0 f1
      generalize atK mm n = x at *
      gi_wp2_with (first | ((refine ⟨trivial, ?_⟩; gi_at_call 32; (with_reducible refine (callsIn_wide.2 (cX _ (hst.out.below ?_))).mono ?_)); (focus ((repeat (first | (with_reducible exact Below.refl _ _) | ((with_reducible refine Below.alloc ?_ ?hB _); (case hB => (first | omega | (simp; done) | (simp; omega)))) | ((with_reducible refine Below.setCell ?_ ?hB _); (case hB => (first | omega | (simp; done) | (simp; omega)))) | (with_reducible refine Below.drew ?_) | ((with_reducible refine below_ext_of ?_ ?hB); (case hB => (first | omega | (simp; done) | (simp; omega)))) | ((with_reducible refine Below.trans ?_ (Below.mono (by assumption) ?hB)); (case hB => (first | omega | (simp; done) | (simp; omega)))))); done)); rintro e w6 ⟨rfl, hs6⟩; have hb6 := hs6.bel; have hz6 := hs6.keep.1; replace hs6 := Lib.hid hs6))
      go_roundw
      case rel => exact ⟨n + 1, by omega, by go_num, Lib.hid hs6.out.stk, by (repeat (first | (with_reducible exact Below.refl _ _) | ((with_reducible refine Below.alloc ?_ ?hB _); (case hB => (first | omega | (simp; done) | (simp; omega)))) | ((with_reducible refine Below.setCell ?_ ?hB _); (case hB => (first | omega | (simp; done) | (simp; omega)))) | (with_reducible refine Below.drew ?_) | ((with_reducible refine below_ext_of ?_ ?hB); (case hB => (first | omega | (simp; done) | (simp; omega)))) | ((with_reducible refine Below.trans ?_ (Below.mono (by assumption) ?hB)); (case hB => (first | omega | (simp; done) | (simp; omega))))))⟩
      case measure => simp [intOf]; omega
    · obtain rfl : n = mm.length := by omega
      rw [List.take_length] at hst
      have cD := fun w1 (h : Stk w1 P mm) => stk_Down P mm w1 (by omega) h
      have cR := fun w1 (h : Stk w1 P mm) => stk_Drop P mm k w1 (by omega) h
      have bKq := (hbq.block _ (by omega)).trans HBK.out
      have bRq := (hbq.block _ (by omega)).trans HBR.out
      have bOq := (hbq.block _ (by omega)).trans HBO.out
      have rOq : KRow wr B2 mm := fun i hi => by
        obtain ⟨ad, e, c0, c1⟩ := HRO.out i hi
        have hl := (HRB.out ad e).2
        exact ⟨ad, e, (hbq.cell (p := ad.add (i * 2)) (by rw [add_block]; exact hl)).trans c0, ((hbq.cell (p := ⟨(ad.add (i * 2)).block, (ad.add (i * 2)).off + 1, none⟩) (by show (ad.add (i * 2)).block < P; rw [add_block]; exact hl)).trans c1)⟩
      have hbwr : Below w.heap.size w wr := HB.out.trans (hbq.mono (by omega))
      have hzw : P < wr.heap.size := hltP
      clear hbq HBK HBR HBO HRO HB
      generalize w3.heap.size = z3 at *
      replace bKq := Lib.hid bKq
      replace bRq := Lib.hid bRq
      replace bOq := Lib.hid bOq
      replace rOq := Lib.hid rOq
      replace hbwr := Lib.hid hbwr
      have hlt2 : w.heap.size + 1 < wr.heap.size := by omega
      gi_wp2_with (first | ((refine ⟨trivial, ?_⟩; gi_at_call 44; (with_reducible refine (callsIn_wide.2 (cD _ (hst.out.below ?_))).mono ?_)); (focus ((repeat (first | (with_reducible exact Below.refl _ _) | ((with_reducible refine Below.alloc ?_ ?hB _); (case hB => (first | omega | (simp; done) | (simp; omega)))) | ((with_reducible refine Below.setCell ?_ ?hB _); (case hB => (first | omega | (simp; done) | (simp; omega)))) | (with_reducible refine Below.drew ?_) | ((with_reducible refine below_ext_of ?_ ?hB); (case hB => (first | omega | (simp; done) | (simp; omega)))) | ((with_reducible refine Below.trans ?_ (Below.mono (by assumption) ?hB)); (case hB => (first | omega | (simp; done) | (simp; omega)))))); done)); rintro e w4 ⟨b, A4, d4, rfl, hx4, hr4, hzb, ha4, hb4⟩; have hz4 := hb4.size; replace hx4 := Lib.hid hx4; replace hr4 := Lib.hid hr4; replace ha4 := Lib.hid ha4; have q0 : w4.cell? ⟨w.heap.size, 0, none⟩ = some (.int .i64 k.c) := (by have := (hb4.block w.heap.size (by omega)).trans bKq.out; simp [World.cell?, this]); have q1 : w4.cell? ⟨w.heap.size, 1, none⟩ = some (.int .i64 k.i) := (by have := (hb4.block w.heap.size (by omega)).trans bKq.out; simp [World.cell?, this])) | ((refine ⟨trivial, ?_⟩; gi_at_call 45; (with_reducible refine (callsIn_wide.2 (cR _ (hst.out.below ?_))).mono ?_)); (focus ((repeat (first | (with_reducible exact Below.refl _ _) | ((with_reducible refine Below.alloc ?_ ?hB _); (case hB => (first | omega | (simp; done) | (simp; omega)))) | ((with_reducible refine Below.setCell ?_ ?hB _); (case hB => (first | omega | (simp; done) | (simp; omega)))) | (with_reducible refine Below.drew ?_) | ((with_reducible refine below_ext_of ?_ ?hB); (case hB => (first | omega | (simp; done) | (simp; omega)))) | ((with_reducible refine Below.trans ?_ (Below.mono (by assumption) ?hB)); (case hB => (first | omega | (simp; done) | (simp; omega)))))); done)); rintro e w5 ⟨rfl, hs5⟩; have hb5 := hs5.bel; have hz5 := hs5.keep.1; replace hs5 := Lib.hid hs5; have cO5 := cell_one ((hb5.block o2 (by omega)).trans ((hb4.block o2 (by omega)).trans bOq.out))))
      have hbw4 : Below wr.heap.size wr w4 := hb4
      have hfree : ∀ q, wr.heap.size ≤ q → Free w4 P q := fun q hq => hst.out.free hbw4 hq
      have low5 : ∀ q (o : Obj), q < P → wr.heap[q]? = some o → w5.heap[q]? = some o := fun q o hq ho => (hb5.block q hq).trans ((hb4.block q (by omega)).trans ho)
      have c9 : (w5.alloc (.cells #[.int .i64 (mm.length : Int)] 3)).heap[w5.heap.size]? = some (.cells #[.int .i64 (mm.length : Int)] 3 (0, 0)) := blk_new _ _
      have cR6 : (w5.alloc (.cells #[.int .i64 (mm.length : Int)] 3)).heap[w.heap.size + 1]? = some (.cells #[.bool false] 4 (0, 0)) := blk_alloc (low5 _ _ (by omega) bRq.out) _
      have cO6 : (w5.alloc (.cells #[.int .i64 (mm.length : Int)] 3)).heap[o2]? = some (.cells #[.slice B2 mm.length d2] 54 (0, 0)) := blk_alloc (low5 _ _ (by omega) bOq.out) _
      have hb35 : ∀ ad v, ad.block < P → wr.cell? ad = some v → w5.cell? ad = some v := fun ad v hq hc => (hb5.cell hq).trans ((hb4.cell (by omega)).trans hc)
      have rO6 : KRow (w5.alloc (.cells #[.int .i64 (mm.length : Int)] 3)) B2 mm := by
        refine KRow.below (w := w5) (fun i hi => ?_) (by (repeat (first | (with_reducible exact Below.refl _ _) | ((with_reducible refine Below.alloc ?_ ?hB _); (case hB => (first | omega | (simp; done) | (simp; omega)))) | ((with_reducible refine Below.setCell ?_ ?hB _); (case hB => (first | omega | (simp; done) | (simp; omega)))) | (with_reducible refine Below.drew ?_) | ((with_reducible refine below_ext_of ?_ ?hB); (case hB => (first | omega | (simp; done) | (simp; omega)))) | ((with_reducible refine Below.trans ?_ (Below.mono (by assumption) ?hB)); (case hB => (first | omega | (simp; done) | (simp; omega)))))))
        obtain ⟨ad, e, c0, c1⟩ := rOq.out i hi
        have hl := (HRB.out ad e).2
        exact ⟨ad, e, hb35 _ _ (by rw [add_block]; exact hl) c0, hb35 _ _ (by show (ad.add (i * 2)).block < P; rw [add_block]; exact hl) c1⟩
      have cX6 : (w5.alloc (.cells #[.int .i64 (mm.length : Int)] 3)).heap[b]? = some (.cells #[.slice A4 mm.length d4] 68 (0, 0)) := blk_alloc ((hs5.out.keep.2 b (Array.getElem?_eq_some_iff.1 hx4.out).1 (hfree b hzb)).1.trans hx4.out) _
      have hbl : b < w5.heap.size := by have := (Array.getElem?_eq_some_iff.1 hx4.out).1; omega
      have rX6 : KRow (w5.alloc (.cells #[.int .i64 (mm.length : Int)] 3)) A4 mm := (hs5.out.keep.row hr4.out (fun ad e => hfree _ (ha4.out ad e).1)).below (by (repeat (first | (with_reducible exact Below.refl _ _) | ((with_reducible refine Below.alloc ?_ ?hB _); (case hB => (first | omega | (simp; done) | (simp; omega)))) | ((with_reducible refine Below.setCell ?_ ?hB _); (case hB => (first | omega | (simp; done) | (simp; omega)))) | (with_reducible refine Below.drew ?_) | ((with_reducible refine below_ext_of ?_ ?hB); (case hB => (first | omega | (simp; done) | (simp; omega)))) | ((with_reducible refine Below.trans ?_ (Below.mono (by assumption) ?hB)); (case hB => (first | omega | (simp; done) | (simp; omega)))))))
      have hB6 : Below w.heap.size w (w5.alloc (.cells #[.int .i64 (mm.length : Int)] 3)) := ((hbwr.out.trans (hb4.mono (by omega))).trans (hb5.mono (by omega))).alloc (by omega) _
      have hz6 : (w5.alloc (.cells #[.int .i64 (mm.length : Int)] 3)).heap.size = w5.heap.size + 1 := by simp
      have HA4 := Lib.hid (show ∀ ad, A4 = some ad → ad.block < w5.heap.size + 1 ∧ ad.block ≠ w5.heap.size ∧ ad.block ≠ w.heap.size + 1 from fun ad e => by have := ha4.out ad e; omega)
      clear low5 hb35 hfree hbw4 hs5 hr4 hx4 ha4 bKq bRq bOq rOq hb5 hb4 cO5 hbwr q0 q1 cO cD cR hst cN
      generalize w5.alloc (.cells #[.int .i64 (mm.length : Int)] 3) = w6 at *
      generalize hw5 : w5.heap.size = t9 at *
      refine wpIn_rangeFunc_ownO rfl (by omega) (gf := 65) (lb := #[(.pointer (some ⟨b, 0, none⟩))]) rfl trivial (enters_of Try.func65 (by kernel_rfl) rfl)
        (down_stops (8 - 1) (by omega) b t9 (w.heap.size + 1) A4 mm d4 w6 (by omega) cX6 rX6 (by omega) (by omega) (by omega) (by omega) (fun ad e => by have := HA4.out ad e; omega))
        KpX.trans KpX.put (Below.refl _ _) (fun _ => rfl)
        (fun pre W => W.heap[t9]? = some (.cells #[.int .i64 ((mm.length : Int) - (pre.length : Nat))] 3 (0, 0)) ∧ W.heap[w.heap.size + 1]? = some (.cells #[.bool false] 4 (0, 0)) ∧ W.heap[o2]? = some (.cells #[.slice B2 mm.length d2] 54 (0, 0)) ∧ KRow W B2 mm ∧ pre <+: mm.reverse ∧ Below w.heap.size w W)
        (fun co pre _ => ¬ pre <+: mm.reverse)
        (fun s X Y row h hg hr => by
          obtain ⟨h1, h2, h3, h4, h5, h6⟩ := h
          have hr' := fun r e => (hr r e).2
          exact ⟨turn_cells hg hr' h1 rfl, turn_cells hg hr' h2 rfl, turn_cells hg hr' h3 rfl, h4.turn hg hr', h5, h6.grown hg h6.size (fun k e => by have := (hr k e).1; omega)⟩)
        (fun _ _ _ _ _ h _ _ => h)
        ⟨by simpa using c9, cR6, cO6, rO6, ⟨mm.reverse, rfl⟩, hB6⟩
        (fun x a' W => ∃ Bx, t9 < Bx ∧ W.heap[Bx]? = some (.cells #[.int .i64 x.c, .int .i64 x.i] 62 (0, 0)) ∧ a' = { tmps := #[.slice A l.length c, (.agg #[.int .i64 (k).c, .int .i64 (k).i]), undef, (.pointer (some ⟨w.heap.size, 0, none⟩)), (.pointer (some ⟨w.heap.size + 1, 0, none⟩)), (.pointer (some ⟨o2, 0, none⟩)), (.pointer (some ⟨P, 0, none⟩)), .int .i64 (mm.length : Int), .func (.func 65) #[] #[(.pointer (some ⟨b, 0, none⟩))], (.pointer (some ⟨t9, 0, none⟩)), (.pointer (some ⟨Bx, 0, none⟩)), .slice A l.length c, .slice A l.length c, .int .i64 (l.length : Int), .int .i64 (min (l.length : Int) 9), .slice A (min (l.length : Int) 9).toNat c, .slice B2 mm.length d2, (.pointer (some ⟨P, 0, none⟩)), (.pointer (some ⟨P, 0, none⟩)), .bool false, .int .i64 (mm.length : Int), .slice B2 mm.length d2, .int .i64 (mm.length : Int), .bool false, u24, u25, u26, u27, u28, u29, u30, u31, (.pointer (some ⟨P, 0, none⟩)), .func (.func 65) #[] #[(.pointer (some ⟨b, 0, none⟩))], .func (.func 65) #[] #[(.pointer (some ⟨b, 0, none⟩))], .bool false, (.pointer (some ⟨P, 0, none⟩)), (.agg #[.int .i64 (k).c, .int .i64 (k).i]), .bool (decide (k ∈ mm)), .slice B2 mm.length d2, .int .i64 (mm.length : Int), .func (.func 65) #[] #[(.pointer (some ⟨b, 0, none⟩))], (.agg #[.int .i64 (x).c, .int .i64 (x).i]), undef, undef, undef, undef, undef, undef, undef, undef, undef, undef, undef, undef, undef, undef, undef], defers := [] })
        (fun x a' _ X Y row h hg hr => by obtain ⟨Bx, h0, h1, h2⟩ := h; exact ⟨Bx, h0, turn_cells hg (fun r e => (hr r e).2) h1 rfl, h2⟩)
        ?assign ?body ?done ?stop
      case assign =>
        rintro l2 pre x W K ⟨h1, h2, h3, h4, h5, h6⟩ hK
        have hz := (Array.getElem?_eq_some_iff.1 h1).1
        gi_wp2
        exact hK _ _ ((KeepsOthers.alloc _ _).from _) (KpX.alloc _ _) ⟨blk_alloc h1 _, blk_alloc h2 _, blk_alloc h3 _, h4.below (by (repeat (first | (with_reducible exact Below.refl _ _) | ((with_reducible refine Below.alloc ?_ ?hB _); (case hB => (first | omega | (simp; done) | (simp; omega)))) | ((with_reducible refine Below.setCell ?_ ?hB _); (case hB => (first | omega | (simp; done) | (simp; omega)))) | (with_reducible refine Below.drew ?_) | ((with_reducible refine below_ext_of ?_ ?hB); (case hB => (first | omega | (simp; done) | (simp; omega)))) | ((with_reducible refine Below.trans ?_ (Below.mono (by assumption) ?hB)); (case hB => (first | omega | (simp; done) | (simp; omega))))))), h5, h6.alloc h6.size _⟩ ⟨W.heap.size, hz, blk_new _ _, rfl⟩
      case body =>
        rintro l2 pre x a' W ⟨h1, h2, h3, h4, h5, h6⟩ ⟨Bx, hBx, hbx, rfl⟩ hlt
        have d9 := cell_one h1
        have f9 := blk_frozen h1 0
        have dR := cell_one h2
        have fR := blk_frozen h2 0
        have dO := cell_one h3
        have dX0 : W.cell? ⟨Bx, 0, none⟩ = some (.int .i64 x.c) := by simp [World.cell?, hbx]
        have dX1 : W.cell? ⟨Bx, 1, none⟩ = some (.int .i64 x.i) := by simp [World.cell?, hbx]
        obtain ⟨r, hr⟩ : ∃ r : Nat, mm.length - 1 - pre.length = r := ⟨_, rfl⟩
        have hrl : r < mm.length := by omega
        have hnx := rev_next h5 hlt x
        rw [hr] at hnx
        obtain ⟨ad, eB, y0, y1⟩ := h4 r hrl
        have hadP := HRB.out ad eB
        have haR : (ad.add (r * 2)).block ≠ w.heap.size + 1 := by rw [add_block]; omega
        have hab : (ad.add (r * 2)).block ≠ t9 := by rw [add_block]; omega
        have hzW := (Array.getElem?_eq_some_iff.1 h1).1
        obtain ⟨y, hy⟩ : ∃ y, atK mm r = y := ⟨_, rfl⟩
        rw [hy] at y0 y1 hnx
        have e1 : (mm.length : Int) - (pre.length : Nat) - 1 = (r : Int) := by omega
        have hrM : (r : Int) < 9 := by omega
        obtain ⟨Z, hZ⟩ : ∃ Z : Int, (mm.length : Int) - (pre.length : Nat) = Z := ⟨_, rfl⟩
        rw [hZ] at d9 e1
        obtain rfl : Z = (r : Int) + 1 := by omega
        subst eB
        have HI := Lib.hid (show _ ∧ _ ∧ _ ∧ _ ∧ _ ∧ _ from ⟨h1, h2, h3, h4, h5, h6⟩)
        have HNX := Lib.hid hnx
        have HZ := Lib.hid hZ
        clear h1 h2 h3 h4 h5 h6 hnx hbx hZ
        have hke := kEq_iff x y
        have hbk : ∀ (v : Value), Below W.heap.size W W := fun _ => Below.refl _ _
        have hkx := kpx_a (a := t9) (b := w.heap.size + 1) (i := 0) W (.int .i64 (r : Int))
        have n9 : (W.setCell ⟨t9, 0, none⟩ (.int .i64 (r : Int))).heap[t9]? = some (.cells #[.int .i64 (r : Int)] 3 (0, 0)) := by have := heap_setCell_same W t9 0 _ _ (.int .i64 (r : Int)) HI.out.1; simpa using this
        have nR := (heap_set_ne W ⟨t9, 0, none⟩ (.int .i64 (r : Int)) (w.heap.size + 1) (show w.heap.size + 1 ≠ t9 by omega)).trans HI.out.2.1
        have nO := hkx _ _ (show o2 ≠ t9 by omega) (by omega) HI.out.2.2.1 rfl
        have nK := hkx.row HI.out.2.2.2.1 (fun ad e => by have := HRB.out ad e; omega)
        have nB := HI.out.2.2.2.2.2.setCell (p := ⟨t9, 0, none⟩) (show w.heap.size ≤ t9 by omega) (.int .i64 (r : Int))
        have nP := HI.out.2.2.2.2.1
        have m9 := cell_one n9
        have mR := cell_one nR
        have gR := blk_frozen nR 0
        have mO := cell_one nO
        have my0 := hkx.cell hab haR y0
        have my1 := hkx.cell (ad := ⟨(ad.add (r * 2)).block, (ad.add (r * 2)).off + 1, none⟩) hab haR y1
        have mX0 := hkx.cell (ad := ⟨Bx, 0, none⟩) (show Bx ≠ t9 by omega) (show Bx ≠ w.heap.size + 1 by omega) dX0
        have mX1 := hkx.cell (ad := ⟨Bx, 1, none⟩) (show Bx ≠ t9 by omega) (show Bx ≠ w.heap.size + 1 by omega) dX1
        have hkf : KeepsFrom w6.heap.size W (W.setCell ⟨t9, 0, none⟩ (.int .i64 (r : Int))) := (KeepsOthers.setCell _ _ _).from _
        have hzS : (W.setCell ⟨t9, 0, none⟩ (.int .i64 (r : Int))).heap.size = W.heap.size := by simp
        replace HI := True.intro
        have HN := Lib.hid (show _ ∧ _ ∧ _ ∧ _ ∧ _ ∧ _ from ⟨n9, nR, nO, nK, nP, nB⟩)
        clear n9 nR nO nK nP nB HI
        have hr0 : (0 : Int) ≤ r := by omega
        have HKX := Lib.hid hkx
        have HKF := Lib.hid hkf
        clear hkx hkf hbk
        by_cases hxy : x = y
        · rw [decide_eq_true hxy] at hke
          replace hxy := Lib.hid hxy
          gi_wp2
          clear d9 f9 dR fR dO dX0 dX1 y0 y1
          generalize W.setCell ⟨t9, 0, none⟩ (.int .i64 (r : Int)) = W' at *
          gi_region
          all_goals
            gi_wp2
            exact ⟨HKF.out.trans ⟨Nat.le_refl _, fun _ _ _ h _ => h⟩, HKX.out, by rw [show ((mm.length : Int) - ((pre ++ [x]).length : Nat)) = (r : Int) from by simp; omega]; exact HN.out.1, HN.out.2.1, HN.out.2.2.1, HN.out.2.2.2.1, HNX.out.2 hxy.out, Below.drew HN.out.2.2.2.2.2⟩
        · rw [decide_eq_false hxy] at hke
          replace hxy := Lib.hid hxy
          gi_wp2
          clear d9 f9 dR fR dO dX0 dX1 y0 y1
          generalize W.setCell ⟨t9, 0, none⟩ (.int .i64 (r : Int)) = W' at *
          gi_region
          all_goals
            gi_wp2
            exact ⟨KeepsFrom.trans (Y := W'.setCell ⟨w.heap.size + 1, 0, none⟩ (.bool false)) (HKF.out.trans ((KeepsOthers.setCell _ _ _).from _)) ⟨Nat.le_refl _, fun _ _ _ h _ => h⟩, fun h => hxy.out (HNX.out.1 h)⟩
      case done =>
        rintro D xs W hD rfl ⟨h1, h2, h3, h4, h5, h6⟩ hK
        have d9 : W.cell? ⟨t9, 0, none⟩ = some (.int .i64 0) := by have := cell_one h1; simpa using this
        have dR := cell_one h2
        have fR := blk_frozen h2 0
        have hRl := (Array.getElem?_eq_some_iff.1 h2).1
        replace h2 := Lib.hid h2
        clear h1 h3 h4 h5
        gi_wp2_with (first | ((refine ⟨trivial, ?_⟩; gi_at_call 33; (with_reducible refine (callsIn_wide.2 (HLV.out _)).mono ?_)); rintro e w9 ⟨rfl, hb9⟩; have hz9 := hb9.size; obtain ⟨hc9, hf9⟩ := bcell hb9))
        have hK9 : (w9.setCell ⟨w.heap.size + 1, 0, none⟩ (.bool true)).heap[D]? = some (.deferred (some [])) := (heap_set_ne _ _ _ _ (show D ≠ w.heap.size + 1 by omega)).trans ((hb9.block D (Array.getElem?_eq_some_iff.1 hK).1).trans hK)
        refine ⟨by simp, .inl ⟨_, _, rfl, run_takeDeferred hK9, ?_⟩⟩
        have h2 := (hb9.block _ hRl).trans h2.out
        have hR9 : ((w9.setCell ⟨w.heap.size + 1, 0, none⟩ (.bool true)).putObj D (.deferred none)).heap[w.heap.size + 1]? = some (.cells #[.bool true] 4 (0, 0)) := by
          refine (World.putObj_heap_other (show w.heap.size + 1 ≠ D by omega)).trans ?_
          have := heap_setCell_same w9 (w.heap.size + 1) 0 _ _ (.bool true) h2
          simpa using this
        have cR9 := cell_one hR9
        have hDl : w.heap.size ≤ D := by omega
        have hbl9 : Below w.heap.size w ((w9.setCell ⟨w.heap.size + 1, 0, none⟩ (.bool true)).putObj D (.deferred none)) := ((h6.trans (hb9.mono h6.size)).setCell (p := ⟨w.heap.size + 1, 0, none⟩) (show w.heap.size ≤ w.heap.size + 1 by omega) _).trans (belowK_b (w := w) (Nat.le_refl _) _ D _ _ hDl hK9 rfl rfl)
        generalize (w9.setCell ⟨w.heap.size + 1, 0, none⟩ (.bool true)).putObj D (.deferred none) = wf at *
        exact ⟨_, (by simp [results, Try.results9, go_sem, cR9]; done), rfl, hbl9⟩
      case stop =>
        rintro D co pre W hD hS hX hK
        exact absurd hS hX
end Go.Proofs.Yteldbnelfeiifaa
