/- The program's text of an event, walked. -/
import Derived.Test.YtinnaiofgbjicaaDoorShA
import Derived.Test.YtinnaiofgbjicaaDoorEvD
import Derived.Test.YtinnaiofgbjicaaDoorArgL
import Derived.Test.YtinnaiofgbjicaaDoorShelf
import Derived.Lib.AppendIntMem
namespace Go.Proofs.YtinnaiofgbjicaaDoor
open Go.RowKit Go.Proofs.YtinnaiofgbjicaaDoorW.PrintWords
set_option linter.unusedSimpArgs false
set_option linter.unusedVariables false
set_option maxRecDepth 1000000
/-- The library's table of powers lies as its initialiser lays it, whatever is done from here on. -/
def Tab (w : World) : Prop := Lib.TabBelow Tryd.prog w.heap.size w "internal/strconv.uint64pow10" .u64 Lib.pow10Tab
theorem Tab.at {w w1 : World} (h : Tab w) (hb : Below w.heap.size w w1) : Tab w1 := fun w' h' => h w' (hb.trans (Below.mono h' hb.size))
theorem std_Itoa (n : Int) (w : World) (hn : -9223372036854775808 ≤ n ∧ n ≤ 9223372036854775807) (hT : Tab w) : Calls Tryd.prog 51 #[.int .i64 n] w fun e w' => e = .returned (.string (itoS n)) ∧ Below w.heap.size w w' := by
  refine (Tryd.strconv_Itoa n hn.1 hn.2 w hT.here).mono fun e w' ⟨he, k, os, hw⟩ => ?_
  subst hw
  exact ⟨he, Lib.below_grow _ _ (Nat.le_refl _) _ _⟩
/-- An event's text. -/
def sp (s : ByteArray) (n : Int) : ByteArray := s ++ ({ data := #[32] } ++ itoS n)
def showN (s : ByteArray) (l : List V8) : ByteArray := l.foldl (fun s x => sp s x.n) s
def showS (e : E4) : ByteArray := if isE e.k = true then showN (sp (nameE e.k) e.id) (argsE e) else { data := #[] }
theorem showN_step (s : ByteArray) (l : List V8) (j : Nat) (h : j < l.length) : showN s (l.take (j + 1)) = sp (showN s (l.take j)) (at8 l j).n := by
  rw [take_at8 l j h]; simp [showN]
theorem sp_size (s : ByteArray) {n : Int} (h : -9223372036854775808 ≤ n ∧ n ≤ 9223372036854775807) : (sp s n).size ≤ s.size + 22 := by
  have := itoS_size h
  unfold sp; rw [ByteArray.size_append, ByteArray.size_append, show ({ data := #[32] } : ByteArray).size = 1 from rfl]; omega
theorem nameE_size (k : Int) : (nameE k).size ≤ 7 := by
  unfold nameE
  split
  · exact Nat.le_of_ble_eq_true rfl
  · split
    · exact Nat.le_of_ble_eq_true rfl
    · split
      · exact Nat.le_of_ble_eq_true rfl
      · split
        · exact Nat.le_of_ble_eq_true rfl
        · split <;> exact Nat.le_of_ble_eq_true rfl
theorem showN_size (s : ByteArray) (l : List V8) (h : ∀ j, j < l.length → -9223372036854775808 ≤ (at8 l j).n ∧ (at8 l j).n ≤ 9223372036854775807) : ∀ j, j ≤ l.length → (showN s (l.take j)).size ≤ s.size + 22 * j
  | 0, _ => by simp [showN]
  | j + 1, hj => by
    have ih := showN_size s l h j (by omega)
    have := sp_size (showN s (l.take j)) (h j (by omega))
    rw [showN_step s l j (by omega)]; omega
set_option maxHeartbeats 2000000 in
theorem ev_Show (e : E4) (w : World) (hbd : e.Bd) (hT : Tab w) : Calls Tryd.prog 25 #[(.agg #[.int .i64 (e).k, .int .i64 (e).id, .int .i64 (e).a, .int .i64 (e).b])] w fun en w' => en = .returned (.string (showS e)) ∧ Below w.heap.size w w' := by
  have ci := fun w => ev_is e.k w
  cases hi : isE e.k
  · have HS := Lib.hid (show showS e = { data := #[] } from by unfold showS; rw [if_neg (by rw [hi]; decide)])
    rw [hi] at ci
    clear hi hT
    go_enter Tryd.func25, Tryd.ntmps25
    go_wp2_with (first | (go_at_call 49; (with_reducible refine (ci _).mono ?_); rintro e w1 ⟨rfl, rfl⟩))
    go_ret
    exact ⟨by rw [HS.out]; rfl, by (repeat (first | (with_reducible exact Below.refl _ _) | ((with_reducible refine Below.alloc ?_ ?hB _); (case hB => (first | omega | (simp; done) | (simp; omega)))) | ((with_reducible refine Below.setCell ?_ ?hB _); (case hB => (first | omega | (simp; done) | (simp; omega)))) | (with_reducible refine Below.drew ?_) | ((with_reducible refine below_ext_of ?_ ?hB); (case hB => (first | omega | (simp; done) | (simp; omega)))) | ((with_reducible refine Below.trans ?_ (Below.mono (by assumption) ?hB)); (case hB => (first | omega | (simp; done) | (simp; omega))))))⟩
  · have h0 : 0 ≤ e.k ∧ e.k ≤ 5 := of_decide_eq_true hi
    have cf := fun w => ev_form e.k w h0
    have cn := fun w => ev_numbers e w h0
    unfold NumP at cn
    have cT := fun w1 (hb : Below w.heap.size w w1) => std_Itoa e.id w1 hbd.id (hT.at hb)
    have HS := Lib.hid (show showS e = showN (sp (nameE e.k) e.id) (argsE e) from by unfold showS; rw [if_pos hi])
    have hl2 : (argsE e).length ≤ 2 := by unfold argsE; simp; omega
    have hn : ∀ j, j < (argsE e).length → anyInt (at8 (argsE e) j) = (at8 (argsE e) j).n ∧ -9223372036854775808 ≤ (at8 (argsE e) j).n ∧ (at8 (argsE e) j).n ≤ 9223372036854775807 := fun j hj => by
      rcases argsE_mem hj with h | h
      · rw [h]; exact ⟨rfl, hbd.a⟩
      · rw [h]; exact ⟨rfl, hbd.b⟩
    have HN := Lib.hid hn
    have hti := itoS_size hbd.id
    have hnm := nameE_size e.k
    have hs00 := sp_size (nameE e.k) hbd.id
    have HZ := Lib.hid (fun s j hj => showN_size s (argsE e) (fun j hj => (hn j hj).2) j hj)
    have HT := Lib.hid hT
    rw [hi] at ci
    clear hi hbd hn hT
    generalize argsE e = l at *
    generalize nameE e.k = nm at *
    obtain ⟨s0, hs0⟩ : ∃ s, nm ++ ({ data := #[32] } ++ itoS e.id) = s := ⟨_, rfl⟩
    have HS0 := Lib.hid (show sp nm e.id = s0 from hs0)
    rw [HS0.out] at hs00
    generalize itoS e.id = ti at *
    have hsz1 : ({ data := #[32] } ++ ti : ByteArray).size ≤ 22 := by rw [ByteArray.size_append, show ({ data := #[32] } : ByteArray).size = 1 from rfl]; omega
    have hsz2 : ¬ 9223372036854775807 < ({ data := #[32] } : ByteArray).size + ti.size := by rw [ByteArray.size_append] at hsz1; omega
    have hsz3 : ¬ 9223372036854775807 < nm.size + ({ data := #[32] } ++ ti : ByteArray).size := by omega
    go_enter Tryd.func25, Tryd.ntmps25
    go_wp2_with (first | (go_at_call 49; (with_reducible refine (ci _).mono ?_); rintro e w1 ⟨rfl, rfl⟩) | (go_at_call 50; (with_reducible refine (cf _).mono ?_); rintro en w1 ⟨rfl, hb1⟩; obtain ⟨hc1, hf1⟩ := bcell hb1; have hz1 := hb1.size; (try simp only [World.size_alloc, World.size_setCell, World.size_drew] at hz1)) | (go_at_call 51; (with_reducible refine (cT _ ?_).mono ?_); (focus ((repeat (first | (with_reducible exact Below.refl _ _) | ((with_reducible refine Below.alloc ?_ ?hB _); (case hB => (first | omega | (simp; done) | (simp; omega)))) | ((with_reducible refine Below.setCell ?_ ?hB _); (case hB => (first | omega | (simp; done) | (simp; omega)))) | (with_reducible refine Below.drew ?_) | ((with_reducible refine below_ext_of ?_ ?hB); (case hB => (first | omega | (simp; done) | (simp; omega)))) | ((with_reducible refine Below.trans ?_ (Below.mono (by assumption) ?hB)); (case hB => (first | omega | (simp; done) | (simp; omega)))))); done)); rintro en w2 ⟨rfl, hb2⟩; obtain ⟨hc2, hf2⟩ := bcell hb2; have hz2 := hb2.size; (try simp only [World.size_alloc, World.size_setCell, World.size_drew] at hz2)) | (go_at_call 52; (with_reducible refine (cn _).mono ?_); rintro en w3 ⟨A3, c3, rfl, hr3, hb3⟩; have hz3 := hb3.size; replace hr3 := Lib.hid hr3; (try simp only [World.size_alloc, World.size_setCell, World.size_drew] at hz3)))
    go_loopw [3, 28] (fun s i wr => ∃ j : Nat, j ≤ l.length ∧ i = .int .i64 j ∧ s = .string (showN s0 (l.take j)) ∧ Below w3.heap.size w3 wr) (fun _ i _ => l.length - (intOf i).toNat)
    case atStart => exact ⟨0, by omega, rfl, by rw [← hs0]; rfl, Below.refl _ _⟩
    case round =>
      obtain ⟨j, hj, rfl, rfl, hbr⟩ := hrel
      have hzr := hbr.size
      have hbW : Below w.heap.size w wr := by (repeat (first | (with_reducible exact Below.refl _ _) | ((with_reducible refine Below.alloc ?_ ?hB _); (case hB => (first | omega | (simp; done) | (simp; omega)))) | ((with_reducible refine Below.setCell ?_ ?hB _); (case hB => (first | omega | (simp; done) | (simp; omega)))) | (with_reducible refine Below.drew ?_) | ((with_reducible refine below_ext_of ?_ ?hB); (case hB => (first | omega | (simp; done) | (simp; omega)))) | ((with_reducible refine Below.trans ?_ (Below.mono (by assumption) ?hB)); (case hB => (first | omega | (simp; done) | (simp; omega))))))
      by_cases hlt : j < l.length
      · obtain ⟨ad, u, rfl, f0, hx⟩ := hr3.out.2 j hlt
        have q0 := pw_cell_below hbr f0
        have cI := fun w1 (hb : Below wr.heap.size wr w1) => args_Int (at8 l j) u w1 ((hx.below hbr).below hb)
        rw [(HN.out j hlt).1] at cI
        have cT2 := fun w1 (hb : Below wr.heap.size wr w1) => std_Itoa (at8 l j).n w1 (HN.out j hlt).2 (HT.out.at (hbW.trans (Below.mono hb hbW.size)))
        have HST := Lib.hid (showN_step s0 l j hlt)
        unfold sp at HST
        clear f0 hx
        have HBW := Lib.hid hbW
        clear hbW
        have hzj := HZ.out s0 j (by omega)
        have htn := itoS_size (HN.out j hlt).2
        generalize (at8 l j).n = nn at *
        generalize itoS nn = tn at *
        generalize showN s0 (l.take j) = sj at *
        have hsz4 : ({ data := #[32] } ++ tn : ByteArray).size ≤ 22 := by rw [ByteArray.size_append, show ({ data := #[32] } : ByteArray).size = 1 from rfl]; omega
        have hsz5 : ¬ 9223372036854775807 < ({ data := #[32] } : ByteArray).size + tn.size := by rw [ByteArray.size_append] at hsz4; omega
        have hsz6 : ¬ 9223372036854775807 < sj.size + ({ data := #[32] } ++ tn : ByteArray).size := by omega
        go_wp2_with (first | (go_at_call 53; (with_reducible refine (cI _ ?_).mono ?_); (focus ((repeat (first | (with_reducible exact Below.refl _ _) | ((with_reducible refine Below.alloc ?_ ?hB _); (case hB => (first | omega | (simp; done) | (simp; omega)))) | ((with_reducible refine Below.setCell ?_ ?hB _); (case hB => (first | omega | (simp; done) | (simp; omega)))) | (with_reducible refine Below.drew ?_) | ((with_reducible refine below_ext_of ?_ ?hB); (case hB => (first | omega | (simp; done) | (simp; omega)))) | ((with_reducible refine Below.trans ?_ (Below.mono (by assumption) ?hB)); (case hB => (first | omega | (simp; done) | (simp; omega)))))); done)); rintro en w4 ⟨rfl, rfl⟩) | (go_at_call 51; (with_reducible refine (cT2 _ ?_).mono ?_); (focus ((repeat (first | (with_reducible exact Below.refl _ _) | ((with_reducible refine Below.alloc ?_ ?hB _); (case hB => (first | omega | (simp; done) | (simp; omega)))) | ((with_reducible refine Below.setCell ?_ ?hB _); (case hB => (first | omega | (simp; done) | (simp; omega)))) | (with_reducible refine Below.drew ?_) | ((with_reducible refine below_ext_of ?_ ?hB); (case hB => (first | omega | (simp; done) | (simp; omega)))) | ((with_reducible refine Below.trans ?_ (Below.mono (by assumption) ?hB)); (case hB => (first | omega | (simp; done) | (simp; omega)))))); done)); rintro en w5 ⟨rfl, hb5⟩; have hz5 := hb5.size; (try simp only [World.size_alloc, World.size_setCell, World.size_drew] at hz5)))
        go_roundw
        case rel => exact ⟨j + 1, by omega, by go_num, by rw [HST.out], by (repeat (first | (with_reducible exact Below.refl _ _) | ((with_reducible refine Below.alloc ?_ ?hB _); (case hB => (first | omega | (simp; done) | (simp; omega)))) | ((with_reducible refine Below.setCell ?_ ?hB _); (case hB => (first | omega | (simp; done) | (simp; omega)))) | (with_reducible refine Below.drew ?_) | ((with_reducible refine below_ext_of ?_ ?hB); (case hB => (first | omega | (simp; done) | (simp; omega)))) | ((with_reducible refine Below.trans ?_ (Below.mono (by assumption) ?hB)); (case hB => (first | omega | (simp; done) | (simp; omega))))))⟩
        case measure => simp [intOf]; omega
      · obtain rfl : j = l.length := by omega
        rw [List.take_length]
        go_wp2
        go_ret
        refine ⟨?_, by (repeat (first | (with_reducible exact Below.refl _ _) | ((with_reducible refine Below.alloc ?_ ?hB _); (case hB => (first | omega | (simp; done) | (simp; omega)))) | ((with_reducible refine Below.setCell ?_ ?hB _); (case hB => (first | omega | (simp; done) | (simp; omega)))) | (with_reducible refine Below.drew ?_) | ((with_reducible refine below_ext_of ?_ ?hB); (case hB => (first | omega | (simp; done) | (simp; omega)))) | ((with_reducible refine Below.trans ?_ (Below.mono (by assumption) ?hB)); (case hB => (first | omega | (simp; done) | (simp; omega))))))⟩
        rw [HS.out, HS0.out]; rfl
end Go.Proofs.YtinnaiofgbjicaaDoor
