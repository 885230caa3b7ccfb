/- The event of a message, walked. -/
import Derived.Test.YtinnaiofgbjicaaEvG
import Derived.Test.YtinnaiofgbjicaaArgV
import Derived.Test.YtinnaiofgbjicaaArgL
import Derived.Test.YtinnaiofgbjicaaArgK
namespace Go.Proofs.Ytinnaiofgbjicaa
open Go.RowKit Go.Proofs.YtinnaiofgbjicaaW.PrintWords
set_option linter.unusedSimpArgs false
set_option linter.unusedVariables false
set_option maxRecDepth 1000000
/-- The event of a message: the error's number, the event. -/
def oneE (op id : Int) (b : List Int) : Int × E4 :=
  if isE (op - 128) = true then
    if (unpackP (formE (op - 128)) b).1 = 0 then
      if mayE ⟨op - 128, id, anyInt (at8 (unpackP (formE (op - 128)) b).2 0), anyInt (at8 (unpackP (formE (op - 128)) b).2 1)⟩ = true then
        (0, ⟨op - 128, id, anyInt (at8 (unpackP (formE (op - 128)) b).2 0), anyInt (at8 (unpackP (formE (op - 128)) b).2 1)⟩)
      else (4, e0)
    else ((unpackP (formE (op - 128)) b).1, e0)
  else (12, e0)
def OnP (w : World) (r : Int × E4) (en : Ending) (w' : World) : Prop := en = .returned (.tuple #[(.agg #[.int .i64 (r.2).k, .int .i64 (r.2).id, .int .i64 (r.2).a, .int .i64 (r.2).b]), .int .i64 r.1]) ∧ Below w.heap.size w w'
theorem formE_small (k : Int) : (formE k).size ≤ 140737488351232 := by
  unfold formE; split
  · exact Nat.le_of_ble_eq_true rfl
  · split
    · exact Nat.le_of_ble_eq_true rfl
    · split <;> exact Nat.le_of_ble_eq_true rfl
theorem ev_May (e : E4) (w : World) (hbd : e.Bd) : Calls Try.prog 10 #[(.agg #[.int .i64 (e).k, .int .i64 (e).id, .int .i64 (e).a, .int .i64 (e).b])] w (fun en w' => en = .returned (.bool (mayE e)) ∧ Below w.heap.size w w') := by
  have cM := fun w => ev_message e w hbd
  unfold MsgP at cM
  go_enter Try.func10, Try.ntmps10
  go_wp2_with (first | (go_at_call 20; (with_reducible refine (cM _).mono ?_); rintro en w4 ⟨op4, id4, A4, n4, c4, rfl, _, hb4⟩; have hz4 := hb4.size; (try simp only [World.size_alloc, World.size_setCell, World.size_drew] at hz4)))
  refine bodyPost_ret (v := .bool (mayE e)) (by simp [results, Try.results10, go_sem, ↓IntWalk.iteOmega, *]) rfl ?_
  exact ⟨rfl, by (repeat (first | (with_reducible exact Below.refl _ _) | ((with_reducible refine Below.alloc ?_ ?hB _); (case hB => (first | omega | (simp; done) | (simp; omega)))) | ((with_reducible refine Below.setCell ?_ ?hB _); (case hB => (first | omega | (simp; done) | (simp; omega)))) | (with_reducible refine Below.drew ?_) | ((with_reducible refine below_ext_of ?_ ?hB); (case hB => (first | omega | (simp; done) | (simp; omega)))) | ((with_reducible refine Below.trans ?_ (Below.mono (by assumption) ?hB)); (case hB => (first | omega | (simp; done) | (simp; omega))))))⟩
set_option maxHeartbeats 1000000 in
theorem one_not (op id : Int) (mb : List Int) (A : Option Addr) (c : Nat) (w : World) (ho : op < 65536) (ho0 : 0 ≤ op) (hi : isE (op - 128) = false) : Calls Try.prog 25 #[.agg #[.int .i64 op, .int .i64 id, .slice A mb.length c]] w (OnP w (12, e0)) := by
  have hw : IntKind.i64.wrap (op - 128) = op - 128 := by rw [IntKind.wrap_i64]; omega
  obtain ⟨k, hk⟩ : ∃ k, op - 128 = k := ⟨_, rfl⟩
  have ci := fun w => ev_is k w
  rw [hk] at hi hw
  rw [hi] at ci
  clear hi
  go_enter Try.func25, Try.ntmps25
  go_wp2_with (first | (go_at_call 28; (with_reducible refine (ci _).mono ?_); rintro e w1 ⟨rfl, rfl⟩))
  refine bodyPost_ret (v := .tuple #[.agg #[.int .i64 0, .int .i64 0, .int .i64 0, .int .i64 0], .int .i64 12]) (by simp [results, Try.results25, go_sem, ↓IntWalk.iteOmega, *]) rfl ?_
  exact ⟨rfl, by (repeat (first | (with_reducible exact Below.refl _ _) | ((with_reducible refine Below.alloc ?_ ?hB _); (case hB => (first | omega | (simp; done) | (simp; omega)))) | ((with_reducible refine Below.setCell ?_ ?hB _); (case hB => (first | omega | (simp; done) | (simp; omega)))) | (with_reducible refine Below.drew ?_) | ((with_reducible refine below_ext_of ?_ ?hB); (case hB => (first | omega | (simp; done) | (simp; omega)))) | ((with_reducible refine Below.trans ?_ (Below.mono (by assumption) ?hB)); (case hB => (first | omega | (simp; done) | (simp; omega))))))⟩
set_option maxHeartbeats 1000000 in
theorem one_err (op id : Int) (mb : List Int) (A : Option Addr) (c : Nat) (w : World) (hs : BS w A mb c) (hn : mb.length ≤ 1000000) (ho : op < 65536) (ho0 : 0 ≤ op) (hi : isE (op - 128) = true) (i : Int) (l : List V8) (hu : unpackP (formE (op - 128)) mb = (i, l)) (h0 : ¬ i = 0) : Calls Try.prog 25 #[.agg #[.int .i64 op, .int .i64 id, .slice A mb.length c]] w (OnP w (i, e0)) := by
  have hw : IntKind.i64.wrap (op - 128) = op - 128 := by rw [IntKind.wrap_i64]; omega
  obtain ⟨k, hk⟩ : ∃ k, op - 128 = k := ⟨_, rfl⟩
  have cU := fun w1 (hb : Below w.heap.size w w1) => args_Unpack (formE k) A mb c w1 (formE_small k) hs.byt hn hs.le hs.nil (hs.rd.below hb)
  unfold UnpP at cU
  have ci := fun w => ev_is k w
  rw [hk] at hi hw hu
  have cf := fun w => ev_form k w (of_decide_eq_true hi)
  rw [hi] at ci
  rw [hu] at cU
  have hi0 : (i == 0) = false := by simp [h0]
  have hi1 : (i != 0) = true := by simp [h0]
  clear hi hu hs
  simp only at cU
  go_enter Try.func25, Try.ntmps25
  go_wp2_with (first | (go_at_call 28; (with_reducible refine (ci _).mono ?_); rintro e w1 ⟨rfl, rfl⟩) | (go_at_call 29; (with_reducible refine (cf _).mono ?_); rintro en w1 ⟨rfl, hb1⟩; obtain ⟨hc1, hf1⟩ := bcell hb1; have hz1 := hb1.size; (try simp only [World.size_alloc, World.size_setCell, World.size_drew] at hz1)) | (go_at_call 37; (with_reducible refine (cU _ ?_).mono ?_); (focus ((repeat (first | (with_reducible exact Below.refl _ _) | ((with_reducible refine Below.alloc ?_ ?hB _); (case hB => (first | omega | (simp; done) | (simp; omega)))) | ((with_reducible refine Below.setCell ?_ ?hB _); (case hB => (first | omega | (simp; done) | (simp; omega)))) | (with_reducible refine Below.drew ?_) | ((with_reducible refine below_ext_of ?_ ?hB); (case hB => (first | omega | (simp; done) | (simp; omega)))) | ((with_reducible refine Below.trans ?_ (Below.mono (by assumption) ?hB)); (case hB => (first | omega | (simp; done) | (simp; omega)))))); done)); rintro en w2 ⟨A2, c2, rfl, hl2, hr2, hb2⟩; obtain ⟨hc2, hf2⟩ := bcell hb2; have hz2 := hb2.size; replace hr2 := Lib.hid hr2; (try simp only [World.size_alloc, World.size_setCell, World.size_drew] at hz2)))
  refine bodyPost_ret (v := .tuple #[.agg #[.int .i64 0, .int .i64 0, .int .i64 0, .int .i64 0], .int .i64 i]) (by simp [results, Try.results25, go_sem, ↓IntWalk.iteOmega, *]) rfl ?_
  exact ⟨rfl, by (repeat (first | (with_reducible exact Below.refl _ _) | ((with_reducible refine Below.alloc ?_ ?hB _); (case hB => (first | omega | (simp; done) | (simp; omega)))) | ((with_reducible refine Below.setCell ?_ ?hB _); (case hB => (first | omega | (simp; done) | (simp; omega)))) | (with_reducible refine Below.drew ?_) | ((with_reducible refine below_ext_of ?_ ?hB); (case hB => (first | omega | (simp; done) | (simp; omega)))) | ((with_reducible refine Below.trans ?_ (Below.mono (by assumption) ?hB)); (case hB => (first | omega | (simp; done) | (simp; omega))))))⟩
theorem any_apart {w : World} {A : Option Addr} {l : List V8} {g : Nat} {p q r u : Int} {t : TypeId} {fr : Nat × Nat} (h : AnyRow w A l) (hB : w.heap[g]? = some (.cells #[.int .i64 p, .int .i64 q, .int .i64 r, .int .i64 u] t fr)) : 0 < l.length → ∀ ad, A = some ad → ad.block ≠ g := by
  intro hn ad hA e
  obtain ⟨ad', y, e', hc, hx⟩ := h 0 hn
  rw [hA] at e'; injection e' with e'; subst e'
  have hz : ad.add 0 = ad := by simp [Addr.add]
  have h0 : w.cell? ad = some y := by rw [← hz]; exact hc
  subst e
  unfold World.cell? at h0
  rw [hB] at h0
  rcases ad with ⟨bl, off, sp⟩
  match off, h0 with
  | 0, h0 => (cases sp <;> simp at h0) <;> (subst h0; cases hx)
  | 1, h0 => (cases sp <;> simp at h0) <;> (subst h0; cases hx)
  | 2, h0 => (cases sp <;> simp at h0) <;> (subst h0; cases hx)
  | 3, h0 => (cases sp <;> simp at h0) <;> (subst h0; cases hx)
  | k + 4, h0 => cases sp <;> simp at h0
theorem AnyRow.set {w : World} {A : Option Addr} {l : List V8} {g i : Nat} (h : AnyRow w A l) (hnb : NoB l) (hne : 0 < l.length → ∀ ad, A = some ad → ad.block ≠ g) (v : Value) : AnyRow (w.setCell ⟨g, i, none⟩ v) A l := by
  intro j hj
  obtain ⟨ad, y, e, hc, hx⟩ := h j hj
  refine ⟨ad, y, e, ?_, hx.any_world (hnb j hj)⟩
  rw [World.cell?_setCell_other _ _ _ _ (fun e2 => hne (by omega) ad e (by have := congrArg Addr.block e2; rw [add_blk] at this; first | exact this | exact this.symm)), hc]
set_option maxHeartbeats 1000000 in
theorem one_ok (op id : Int) (mb : List Int) (A : Option Addr) (c : Nat) (w : World) (hs : BS w A mb c) (hn : mb.length ≤ 1000000) (ho : op < 65536) (ho0 : 0 ≤ op) (hi : isE (op - 128) = true) (l : List V8) (hu : unpackP (formE (op - 128)) mb = (0, l)) (h2 : l.length ≤ 2) (hNB : NoB l) (a0 a1 : Int) (ha0 : anyInt (at8 l 0) = a0) (ha1 : anyInt (at8 l 1) = a1) (hbd : (E4.mk (op - 128) id a0 a1).Bd) : Calls Try.prog 25 #[.agg #[.int .i64 op, .int .i64 id, .slice A mb.length c]] w (OnP w (if mayE ⟨op - 128, id, a0, a1⟩ = true then (0, ⟨op - 128, id, a0, a1⟩) else (4, e0))) := by
  have hw : IntKind.i64.wrap (op - 128) = op - 128 := by rw [IntKind.wrap_i64]; omega
  obtain ⟨k, hk⟩ : ∃ k, op - 128 = k := ⟨_, rfl⟩
  have cU := fun w1 (hb : Below w.heap.size w w1) => args_Unpack (formE k) A mb c w1 (formE_small k) hs.byt hn hs.le hs.nil (hs.rd.below hb)
  unfold UnpP at cU
  have ci := fun w => ev_is k w
  rw [hk] at hi hw hu hbd
  have cM := fun w => ev_May ⟨k, id, a0, a1⟩ w hbd
  clear hbd
  rw [hk]
  generalize hM : OnP w (if mayE ⟨k, id, a0, a1⟩ = true then (0, ⟨k, id, a0, a1⟩) else (4, e0)) = M
  have HM := Lib.hid hM
  clear hM
  have cf := fun w => ev_form k w (of_decide_eq_true hi)
  rw [hi] at ci
  rw [hu] at cU
  clear hi hu hs
  simp only at cU
  go_enter Try.func25, Try.ntmps25
  go_wp2_with (first | (go_at_call 28; (with_reducible refine (ci _).mono ?_); rintro e w1 ⟨rfl, rfl⟩) | (go_at_call 29; (with_reducible refine (cf _).mono ?_); rintro en w1 ⟨rfl, hb1⟩; obtain ⟨hc1, hf1⟩ := bcell hb1; have hz1 := hb1.size; (try simp only [World.size_alloc, World.size_setCell, World.size_drew] at hz1)) | (go_at_call 37; (with_reducible refine (cU _ ?_).mono ?_); (focus ((repeat (first | (with_reducible exact Below.refl _ _) | ((with_reducible refine Below.alloc ?_ ?hB _); (case hB => (first | omega | (simp; done) | (simp; omega)))) | ((with_reducible refine Below.setCell ?_ ?hB _); (case hB => (first | omega | (simp; done) | (simp; omega)))) | (with_reducible refine Below.drew ?_) | ((with_reducible refine below_ext_of ?_ ?hB); (case hB => (first | omega | (simp; done) | (simp; omega)))) | ((with_reducible refine Below.trans ?_ (Below.mono (by assumption) ?hB)); (case hB => (first | omega | (simp; done) | (simp; omega)))))); done)); rintro en w2 ⟨A2, c2, rfl, hl2, hr2, hb2⟩; obtain ⟨hc2, hf2⟩ := bcell hb2; have hz2 := hb2.size; replace hr2 := Lib.hid hr2; (try simp only [World.size_alloc, World.size_setCell, World.size_drew] at hz2)))
  have B2 : w2.heap[w.heap.size + 1 + 1]? = some (.cells #[.int .i64 k, .int .i64 id, .int .i64 0, .int .i64 0] 35 (0, 0)) := by
    have B0 := blk_new ((w.alloc (.cells #[.int .i64 op, .int .i64 id, .slice A mb.length c] 49)).alloc (.cells #[.int .i64 0, .int .i64 0, .int .i64 0, .int .i64 0] 35)) (.cells #[.int .i64 k, .int .i64 id, .int .i64 0, .int .i64 0] 35)
    simp only [World.size_alloc] at B0
    exact blk_belowB (blk_belowB B0 hb1 (by simp only [World.size_alloc]; omega)) hb2 (by omega)
  have B1 : w2.heap[w.heap.size + 1]? = some (.cells #[.int .i64 0, .int .i64 0, .int .i64 0, .int .i64 0] 35 (0, 0)) := by
    have B0 := blk_alloc (blk_new (w.alloc (.cells #[.int .i64 op, .int .i64 id, .slice A mb.length c] 49)) (.cells #[.int .i64 0, .int .i64 0, .int .i64 0, .int .i64 0] 35)) (.cells #[.int .i64 k, .int .i64 id, .int .i64 0, .int .i64 0] 35)
    simp only [World.size_alloc] at B0
    exact blk_belowB (blk_belowB B0 hb1 (by simp only [World.size_alloc]; omega)) hb2 (by omega)
  have hap := any_apart hr2.out B2
  have hf0 : ∀ o, w2.frozen? ⟨w.heap.size + 1 + 1, o, none⟩ = false := fun o => blk_frozen B2 o
  go_loopw [43] (fun i wr => ∃ j : Nat, j ≤ l.length ∧ i = .int .i64 j ∧ (wr.cell? ⟨w.heap.size + 1 + 1, 0, none⟩ = some (.int .i64 k) ∧ wr.cell? ⟨w.heap.size + 1 + 1, 1, none⟩ = some (.int .i64 id) ∧ wr.cell? ⟨w.heap.size + 1 + 1, 2, none⟩ = some (.int .i64 (if 0 < j then anyInt (at8 l 0) else 0)) ∧ wr.cell? ⟨w.heap.size + 1 + 1, 3, none⟩ = some (.int .i64 (if 1 < j then anyInt (at8 l 1) else 0))) ∧ (∀ o, wr.frozen? ⟨w.heap.size + 1 + 1, o, none⟩ = false) ∧ ((∀ o, wr.frozen? ⟨w.heap.size + 1, o, none⟩ = false) ∧ wr.cell? ⟨w.heap.size + 1, 0, none⟩ = some (.int .i64 0) ∧ wr.cell? ⟨w.heap.size + 1, 1, none⟩ = some (.int .i64 0) ∧ wr.cell? ⟨w.heap.size + 1, 2, none⟩ = some (.int .i64 0) ∧ wr.cell? ⟨w.heap.size + 1, 3, none⟩ = some (.int .i64 0)) ∧ w.heap.size + 1 + 1 < wr.heap.size ∧ AnyRow wr A2 l ∧ Below w.heap.size w wr) (fun i _ => l.length - (intOf i).toNat)
  case atStart => exact ⟨0, by omega, rfl, ⟨by go_simp; intro h; exfalso; omega, by go_simp; intro h; exfalso; omega, by go_simp; intro h; exfalso; omega, by go_simp; intro h; exfalso; omega⟩, hf0, ⟨fun o => blk_frozen B1 o, by rw [blk_cell B1]; rfl, by rw [blk_cell B1]; rfl, by rw [blk_cell B1]; rfl, by rw [blk_cell B1]; rfl⟩, by omega, hr2.out, by (repeat (first | (with_reducible exact Below.refl _ _) | ((with_reducible refine Below.alloc ?_ ?hB _); (case hB => (first | omega | (simp; done) | (simp; omega)))) | ((with_reducible refine Below.setCell ?_ ?hB _); (case hB => (first | omega | (simp; done) | (simp; omega)))) | (with_reducible refine Below.drew ?_) | ((with_reducible refine below_ext_of ?_ ?hB); (case hB => (first | omega | (simp; done) | (simp; omega)))) | ((with_reducible refine Below.trans ?_ (Below.mono (by assumption) ?hB)); (case hB => (first | omega | (simp; done) | (simp; omega))))))⟩
  case round =>
    obtain ⟨j, hj, rfl, hev, hfz, ⟨hfr, r0, r1, r2, r3⟩, hsz, hrow, hbr⟩ := hrel
    have hzr := hbr.size
    have hsz1 : w.heap.size + 1 < wr.heap.size := by omega
    by_cases hlt : j < l.length
    · obtain ⟨ad, u, rfl, f0, hx⟩ := hrow j hlt
      obtain rfl | rfl : j = 0 ∨ j = 1 := by omega
      · simp only [Nat.lt_irrefl, if_false, show ¬ 1 < 0 from by omega] at hev
        have f0 : wr.cell? ad = some u := f0
        obtain ⟨e0', e1', e2', e3'⟩ := hev
        have cI := fun w1 (hb : Below wr.heap.size wr w1) => args_Int (at8 l 0) u w1 (hx.below hb)
        clear hx
        have hfz2 := hfz 2
        have hap1 := hap (by omega) ad rfl
        go_wp2_with (first | (go_at_call 38; (with_reducible refine (cI _ ?_).mono ?_); (focus ((repeat (first | (with_reducible exact Below.refl _ _) | ((with_reducible refine Below.alloc ?_ ?hB _); (case hB => (first | omega | (simp; done) | (simp; omega)))) | ((with_reducible refine Below.setCell ?_ ?hB _); (case hB => (first | omega | (simp; done) | (simp; omega)))) | (with_reducible refine Below.drew ?_) | ((with_reducible refine below_ext_of ?_ ?hB); (case hB => (first | omega | (simp; done) | (simp; omega)))) | ((with_reducible refine Below.trans ?_ (Below.mono (by assumption) ?hB)); (case hB => (first | omega | (simp; done) | (simp; omega)))))); done)); rintro en w3 ⟨rfl, rfl⟩))
        go_roundw
        case rel => exact ⟨1, by omega, rfl, ⟨by go_simp, by go_simp, by go_simp, by go_simp⟩, fun o => by go_simp, ⟨fun o => by go_simp, by go_simp, by go_simp, by go_simp, by go_simp⟩, by go_simp, (hrow.set hNB hap _).below (by (repeat (first | (with_reducible exact Below.refl _ _) | ((with_reducible refine Below.alloc ?_ ?hB _); (case hB => (first | omega | (simp; done) | (simp; omega)))) | ((with_reducible refine Below.setCell ?_ ?hB _); (case hB => (first | omega | (simp; done) | (simp; omega)))) | (with_reducible refine Below.drew ?_) | ((with_reducible refine below_ext_of ?_ ?hB); (case hB => (first | omega | (simp; done) | (simp; omega)))) | ((with_reducible refine Below.trans ?_ (Below.mono (by assumption) ?hB)); (case hB => (first | omega | (simp; done) | (simp; omega))))))), by (repeat (first | (with_reducible exact Below.refl _ _) | ((with_reducible refine Below.alloc ?_ ?hB _); (case hB => (first | omega | (simp; done) | (simp; omega)))) | ((with_reducible refine Below.setCell ?_ ?hB _); (case hB => (first | omega | (simp; done) | (simp; omega)))) | (with_reducible refine Below.drew ?_) | ((with_reducible refine below_ext_of ?_ ?hB); (case hB => (first | omega | (simp; done) | (simp; omega)))) | ((with_reducible refine Below.trans ?_ (Below.mono (by assumption) ?hB)); (case hB => (first | omega | (simp; done) | (simp; omega))))))⟩
        case measure => simp [intOf]; omega
      · simp only [Nat.lt_irrefl, if_false, if_true, show 0 < 1 from by omega] at hev
        have f0 : wr.cell? ⟨ad.block, ad.off + 1, none⟩ = some u := by simpa [Addr.add] using f0
        obtain ⟨e0', e1', e2', e3'⟩ := hev
        have cI := fun w1 (hb : Below wr.heap.size wr w1) => args_Int (at8 l 1) u w1 (hx.below hb)
        clear hx
        have hfz2 := hfz 3
        have hap1 := hap (by omega) ad rfl
        go_wp2_with (first | (go_at_call 38; (with_reducible refine (cI _ ?_).mono ?_); (focus ((repeat (first | (with_reducible exact Below.refl _ _) | ((with_reducible refine Below.alloc ?_ ?hB _); (case hB => (first | omega | (simp; done) | (simp; omega)))) | ((with_reducible refine Below.setCell ?_ ?hB _); (case hB => (first | omega | (simp; done) | (simp; omega)))) | (with_reducible refine Below.drew ?_) | ((with_reducible refine below_ext_of ?_ ?hB); (case hB => (first | omega | (simp; done) | (simp; omega)))) | ((with_reducible refine Below.trans ?_ (Below.mono (by assumption) ?hB)); (case hB => (first | omega | (simp; done) | (simp; omega)))))); done)); rintro en w3 ⟨rfl, rfl⟩))
        go_roundw
        case rel => exact ⟨2, by omega, rfl, ⟨by go_simp, by go_simp, by go_simp, by go_simp⟩, fun o => by go_simp, ⟨fun o => by go_simp, by go_simp, by go_simp, by go_simp, by go_simp⟩, by go_simp, (hrow.set hNB hap _).below (by (repeat (first | (with_reducible exact Below.refl _ _) | ((with_reducible refine Below.alloc ?_ ?hB _); (case hB => (first | omega | (simp; done) | (simp; omega)))) | ((with_reducible refine Below.setCell ?_ ?hB _); (case hB => (first | omega | (simp; done) | (simp; omega)))) | (with_reducible refine Below.drew ?_) | ((with_reducible refine below_ext_of ?_ ?hB); (case hB => (first | omega | (simp; done) | (simp; omega)))) | ((with_reducible refine Below.trans ?_ (Below.mono (by assumption) ?hB)); (case hB => (first | omega | (simp; done) | (simp; omega))))))), by (repeat (first | (with_reducible exact Below.refl _ _) | ((with_reducible refine Below.alloc ?_ ?hB _); (case hB => (first | omega | (simp; done) | (simp; omega)))) | ((with_reducible refine Below.setCell ?_ ?hB _); (case hB => (first | omega | (simp; done) | (simp; omega)))) | (with_reducible refine Below.drew ?_) | ((with_reducible refine below_ext_of ?_ ?hB); (case hB => (first | omega | (simp; done) | (simp; omega)))) | ((with_reducible refine Below.trans ?_ (Below.mono (by assumption) ?hB)); (case hB => (first | omega | (simp; done) | (simp; omega))))))⟩
        case measure => simp [intOf]; omega
    · obtain ⟨g0, g1, g2, g3⟩ := hev
      have x0 : (if 0 < j then anyInt (at8 l 0) else 0) = a0 := by
        split
        · exact ha0
        · rw [← ha0, at8_out l 0 (by omega)]; rfl
      have x1 : (if 1 < j then anyInt (at8 l 1) else 0) = a1 := by
        split
        · exact ha1
        · rw [← ha1, at8_out l 1 (by omega)]; rfl
      rw [x0] at g2
      rw [x1] at g3
      clear x0 x1
      have q0 := hfr 0; have q1 := hfr 1; have q2 := hfr 2; have q3 := hfr 3
      by_cases hm : mayE ⟨k, id, a0, a1⟩ = true
      · rw [hm] at cM
        go_wp2_with (first | (go_at_call 10; (with_reducible refine (cM _).mono ?_); rintro en w4 ⟨rfl, hb4⟩; obtain ⟨hc4, hf4⟩ := bcell hb4; have hz4 := hb4.size))
        refine bodyPost_ret (v := .tuple #[.agg #[.int .i64 k, .int .i64 id, .int .i64 a0, .int .i64 a1], .int .i64 0]) (by simp [results, Try.results25, go_sem, ↓IntWalk.iteOmega, *]) rfl ?_
        rw [← HM.out, if_pos hm]
        exact ⟨rfl, by (repeat (first | (with_reducible exact Below.refl _ _) | ((with_reducible refine Below.alloc ?_ ?hB _); (case hB => (first | omega | (simp; done) | (simp; omega)))) | ((with_reducible refine Below.setCell ?_ ?hB _); (case hB => (first | omega | (simp; done) | (simp; omega)))) | (with_reducible refine Below.drew ?_) | ((with_reducible refine below_ext_of ?_ ?hB); (case hB => (first | omega | (simp; done) | (simp; omega)))) | ((with_reducible refine Below.trans ?_ (Below.mono (by assumption) ?hB)); (case hB => (first | omega | (simp; done) | (simp; omega))))))⟩
      · rw [Bool.eq_false_iff.2 hm] at cM
        go_wp2_with (first | (go_at_call 10; (with_reducible refine (cM _).mono ?_); rintro en w4 ⟨rfl, hb4⟩; obtain ⟨hc4, hf4⟩ := bcell hb4; have hz4 := hb4.size))
        refine bodyPost_ret (v := .tuple #[.agg #[.int .i64 0, .int .i64 0, .int .i64 0, .int .i64 0], .int .i64 4]) (by simp [results, Try.results25, go_sem, ↓IntWalk.iteOmega, *]) rfl ?_
        rw [← HM.out, if_neg hm]
        exact ⟨rfl, by (repeat (first | (with_reducible exact Below.refl _ _) | ((with_reducible refine Below.alloc ?_ ?hB _); (case hB => (first | omega | (simp; done) | (simp; omega)))) | ((with_reducible refine Below.setCell ?_ ?hB _); (case hB => (first | omega | (simp; done) | (simp; omega)))) | (with_reducible refine Below.drew ?_) | ((with_reducible refine below_ext_of ?_ ?hB); (case hB => (first | omega | (simp; done) | (simp; omega)))) | ((with_reducible refine Below.trans ?_ (Below.mono (by assumption) ?hB)); (case hB => (first | omega | (simp; done) | (simp; omega))))))⟩
end Go.Proofs.Ytinnaiofgbjicaa
