/- Whatever is done, both answer alike. -/
import Derived.Test.YteldbnelfeiifaaStkZh
namespace Go.Proofs.Yteldbnelfeiifaa
open Go.RowKit Go.Proofs.YteldbnelfeiifaaW.PrintWords
set_option linter.unusedSimpArgs false
set_option linter.unusedVariables false
set_option maxRecDepth 1000000
attribute [local go_sem high] eqK eqKS
structure D5 where
  n : Int
  a : K2
  b : K2
def d0 : D5 := ⟨0, k0, k0⟩
def atD (l : List D5) (i : Nat) : D5 := l.getD i d0
/-- A slice of deeds, read. -/
def DRow (w : World) (A : Option Addr) (l : List D5) : Prop := ∀ i, i < l.length → ∃ ad, A = some ad ∧ w.cell? (ad.add (i * 5)) = some (.int .i64 (atD l i).n) ∧
  w.cell? ⟨(ad.add (i * 5)).block, (ad.add (i * 5)).off + 1, none⟩ = some (.int .i64 (atD l i).a.c) ∧ w.cell? ⟨(ad.add (i * 5)).block, (ad.add (i * 5)).off + 2, none⟩ = some (.int .i64 (atD l i).a.i) ∧
  w.cell? ⟨(ad.add (i * 5)).block, (ad.add (i * 5)).off + 3, none⟩ = some (.int .i64 (atD l i).b.c) ∧ w.cell? ⟨(ad.add (i * 5)).block, (ad.add (i * 5)).off + 4, none⟩ = some (.int .i64 (atD l i).b.i)
theorem KR.takeP {w : World} {A : Option Addr} {l : List K2} {c : Nat} (h : KR w A l c) (j : Nat) (hj : j ≤ l.length) : KR w A (l.take j) c := by
  have h1 := h.le
  refine ⟨by rw [List.length_take]; omega, h.nil, h.max, fun i hi => ?_⟩
  rw [List.length_take] at hi
  obtain ⟨ad, e, c0, c1⟩ := h.row i (by omega)
  rw [atK_take (by omega) hj]
  exact ⟨ad, e, c0, c1⟩
theorem st_Over (p : Nat) (l : List K2) (k : K2) (w : World) (hl : l.length ≤ 10000) (h : Stk w p l) : Calls Try.prog 43 #[(.pointer (some ⟨p, 0, none⟩)), (.agg #[.int .i64 (k).c, .int .i64 (k).i])] w fun e w' => ∃ v, e = .returned v ∧ OwnK w' w.heap.size 62 v (overL l k) ∧ Below w.heap.size w w' :=
  (stk_Over p l k w hl h).mono fun e w' h => h
set_option maxHeartbeats 4000000 in
theorem walk_StackPlays (A : Option Addr) (l : List K2) (c : Nat) (B : Option Addr) (dl : List D5) (d : Nat) (w : World) (hr : KR w A l c) (hd : DRow w B dl) (hdz : dl.length ≤ 9223372036854775807) (hdb : ∀ i, i < dl.length → (atD dl i).a.Bd ∧ (atD dl i).b.Bd) :
    Calls Try.prog 10 #[.slice A l.length c, .slice B dl.length d] w fun e w' => e = .returned (.bool true) ∧ Below w.heap.size w w' := by
  have hll := hr.len
  have hlc := hr.le
  have hcm := hr.max
  have HLV := Lib.hid stk_lives
  obtain ⟨j, hj⟩ : ∃ j, min l.length 6 = j := ⟨_, rfl⟩
  have hjl : j ≤ l.length := by omega
  have hj9 : j ≤ 6 := by omega
  have hrt := hr.takeP j hjl
  have hlt : (l.take j).length = j := by rw [List.length_take]; omega
  have hq : (min (l.length : Int) 6).toNat = j := by omega
  obtain ⟨own, hown⟩ : ∃ own, l.take j = own := ⟨_, rfl⟩
  rw [hown] at hrt hlt
  subst hlt
  have HR := Lib.hid hrt
  have cN := fun w1 (hb : Below w.heap.size w w1) => ref_New A own c w1 (by omega) (HR.out.below hb)
  have HQ := Lib.hid hq
  clear hr hrt hown hj
  go_enter Try.func10, Try.ntmps10
  go_wp2
  clear hq HQ
  go_loopw [6, 7] (fun v i wr => ∃ n : Nat, n ≤ own.length ∧ i = .int .i64 n ∧ OwnK wr w.heap.size 62 v (own.take n) ∧ Below w.heap.size w wr) (fun _ i _ => own.length - (intOf i).toNat)
  case atStart => exact ⟨0, by omega, rfl, OwnK.nil _ _ _, Below.refl _ _⟩
  case round =>
    obtain ⟨n, hn, rfl, hown, hbr⟩ := hrel
    have hzr := hbr.size
    by_cases hlt : n < own.length
    · obtain ⟨ad, rfl, f0, f1⟩ := HR.out.row n hlt
      have g0 := pw_cell_below hbr f0; have g1 := pw_cell_below hbr f1
      have HT := Lib.hid (takeK own n hlt)
      have hml : (own.take n).length ≤ 6 := by rw [List.length_take]; omega
      clear f0 f1
      generalize atK own n = x at *
      generalize own.take n = m at *
      go_wp2_with (first | (at_builtin; refine print_append_cells (w0 := w) (w.heap.size) rfl _ _ 68 62 _ 2 16 rfl Try.underlying68 info_s rfl (by decide) (by decide) _ _ _ [.int .i64 (x).c, .int .i64 (x).i] rfl ?_ rfl ?_ (OwnK.below hown ?_) ?_ ?_ ?_ ?_; (focus (go_simp; done)); (focus (simp [Value.oneCell']; done)); (focus ((repeat (first | (with_reducible exact Below.refl _ _) | ((with_reducible refine Below.alloc ?_ ?hB _); (case hB => (first | omega | (simp; done) | (simp; omega)))) | ((with_reducible refine Below.setCell ?_ ?hB _); (case hB => (first | omega | (simp; done) | (simp; omega)))) | (with_reducible refine Below.drew ?_) | ((with_reducible refine below_ext_of ?_ ?hB); (case hB => (first | omega | (simp; done) | (simp; omega)))) | ((with_reducible refine Below.trans ?_ (Below.mono (by assumption) ?hB)); (case hB => (first | omega | (simp; done) | (simp; omega)))))); done)); (focus ((repeat (first | (with_reducible exact Below.refl _ _) | ((with_reducible refine Below.alloc ?_ ?hB _); (case hB => (first | omega | (simp; done) | (simp; omega)))) | ((with_reducible refine Below.setCell ?_ ?hB _); (case hB => (first | omega | (simp; done) | (simp; omega)))) | (with_reducible refine Below.drew ?_) | ((with_reducible refine below_ext_of ?_ ?hB); (case hB => (first | omega | (simp; done) | (simp; omega)))) | ((with_reducible refine Below.trans ?_ (Below.mono (by assumption) ?hB)); (case hB => (first | omega | (simp; done) | (simp; omega)))))); done)); (focus ((first | omega | (simp; done) | (simp; omega)); done)); (focus omega); intro v3 w3 hown3 hb3 hg3 hat3; have hz3 := hb3.size; (try simp only [World.size_alloc, World.size_setCell, World.size_drew] at hz3)))
      go_roundw
      case rel => exact ⟨n + 1, by omega, by go_num, by rw [HT.out]; exact OwnK.snoc hown3, hb3⟩
      case measure => simp [intOf]; omega
    · obtain rfl : n = own.length := by omega
      rw [List.take_length] at hown
      obtain ⟨C, cc, rfl, hkr⟩ := hown.kr
      have cS := fun w1 (hb : Below wr.heap.size wr w1) => stk_New C own cc w1 (by omega) (hkr.below hb)
      unfold NewP at cS
      have hmm := newL_len own
      obtain ⟨m0, hm0⟩ : ∃ m0, newL own = m0 := ⟨_, rfl⟩
      rw [hm0] at cS cN hmm
      clear hown hkr hm0
      go_wp2_with (first | (go_at_call 31; (with_reducible refine (cS _ ?_).mono ?_); (focus ((repeat (first | (with_reducible exact Below.refl _ _) | ((with_reducible refine Below.alloc ?_ ?hB _); (case hB => (first | omega | (simp; done) | (simp; omega)))) | ((with_reducible refine Below.setCell ?_ ?hB _); (case hB => (first | omega | (simp; done) | (simp; omega)))) | (with_reducible refine Below.drew ?_) | ((with_reducible refine below_ext_of ?_ ?hB); (case hB => (first | omega | (simp; done) | (simp; omega)))) | ((with_reducible refine Below.trans ?_ (Below.mono (by assumption) ?hB)); (case hB => (first | omega | (simp; done) | (simp; omega)))))); done)); rintro e w2 ⟨rfl, hs2, hb2⟩; have hz2 := hb2.size; replace hs2 := Lib.hid hs2; have hb02 := Lib.hid (show Below w.heap.size w w2 from (by (repeat (first | (with_reducible exact Below.refl _ _) | ((with_reducible refine Below.alloc ?_ ?hB _); (case hB => (first | omega | (simp; done) | (simp; omega)))) | ((with_reducible refine Below.setCell ?_ ?hB _); (case hB => (first | omega | (simp; done) | (simp; omega)))) | (with_reducible refine Below.drew ?_) | ((with_reducible refine below_ext_of ?_ ?hB); (case hB => (first | omega | (simp; done) | (simp; omega)))) | ((with_reducible refine Below.trans ?_ (Below.mono (by assumption) ?hB)); (case hB => (first | omega | (simp; done) | (simp; omega))))))))) | (go_at_call 30; (with_reducible refine (cN _ ?_).mono ?_); (focus ((repeat (first | (with_reducible exact Below.refl _ _) | ((with_reducible refine Below.alloc ?_ ?hB _); (case hB => (first | omega | (simp; done) | (simp; omega)))) | ((with_reducible refine Below.setCell ?_ ?hB _); (case hB => (first | omega | (simp; done) | (simp; omega)))) | (with_reducible refine Below.drew ?_) | ((with_reducible refine below_ext_of ?_ ?hB); (case hB => (first | omega | (simp; done) | (simp; omega)))) | ((with_reducible refine Below.trans ?_ (Below.mono (by assumption) ?hB)); (case hB => (first | omega | (simp; done) | (simp; omega)))))); done)); rintro e w3 ⟨v3, rfl, ho3, hb3⟩; have hz3 := hb3.size; have hx3 := Rw.of_own hs2.out hb3 ho3; obtain ⟨A3, c3, rfl, hr3⟩ := hx3; clear ho3; replace hr3 := Lib.hid hr3))
      have hs3 := Lib.hid (hs2.out.below hb3)
      have hb03 := Lib.hid (show Below w.heap.size w w3 from by (repeat (first | (with_reducible exact Below.refl _ _) | ((with_reducible refine Below.alloc ?_ ?hB _); (case hB => (first | omega | (simp; done) | (simp; omega)))) | ((with_reducible refine Below.setCell ?_ ?hB _); (case hB => (first | omega | (simp; done) | (simp; omega)))) | (with_reducible refine Below.drew ?_) | ((with_reducible refine below_ext_of ?_ ?hB); (case hB => (first | omega | (simp; done) | (simp; omega)))) | ((with_reducible refine Below.trans ?_ (Below.mono (by assumption) ?hB)); (case hB => (first | omega | (simp; done) | (simp; omega)))))))
      have hzw := hb03.out.size
      clear hbr hb2 hb3 hs2 hb02 cS cN
      have hpw : w.heap.size ≤ wr.heap.size := hzr
      obtain ⟨p, hp⟩ : ∃ p, wr.heap.size = p := ⟨_, rfl⟩
      rw [hp] at hs3 hr3 hpw ⊢
      clear hp
      go_loopw [9, 10] (fun rv iv wq => ∃ (n c1 : Nat) (A1 : Option Addr) (m : List K2), n ≤ dl.length ∧ n ≤ 40 ∧ iv = .int .i64 n ∧ rv = .slice A1 m.length c1 ∧ m.length ≤ 6 + n ∧ Hid (Stk wq p m) ∧ Hid (Rw wq p A1 m c1) ∧ Hid (Below w.heap.size w wq)) (fun _ iv _ => 40 - (intOf iv).toNat)
      case atStart => exact ⟨0, c3, A3, m0, by omega, by omega, rfl, rfl, by omega, hs3, hr3, hb03⟩
      case round =>
        obtain ⟨n, c1, A1, m, hnl, hn40, rfl, rfl, hml, hst, hrw, hbw⟩ := hrel
        have hzq := hbw.out.size
        by_cases hc : n < dl.length ∧ n < 40
        · obtain ⟨hnl', hn40'⟩ := hc
          obtain ⟨ad, rfl, e0, e1, e2, e3, e4⟩ := hd n hnl'
          have g0 := pw_cell_below hbw.out e0
          have g1 := pw_cell_below hbw.out e1
          have g2 := pw_cell_below hbw.out e2
          have g3 := pw_cell_below hbw.out e3
          have g4 := pw_cell_below hbw.out e4
          have hbd := hdb n hnl'
          generalize atD dl n = x at *
          have cDo := law_does p A1 m c1 x.n x.a x.b wr hst.out hrw.out (by omega) hbd.1 hbd.2
          unfold DoesP at cDo
          have cSm := fun w => law_small x.b w hbd.2
          have hLl := deedL_len x.n m (smallK x.a) (smallK x.b)
          obtain ⟨L, hL⟩ : ∃ L, deedL x.n m (smallK x.a) (smallK x.b) = L := ⟨_, rfl⟩
          rw [hL] at cDo hLl
          obtain ⟨k, hk⟩ : ∃ k, smallK x.b = k := ⟨_, rfl⟩
          rw [hk] at cSm
          have hL10 : L.length ≤ 1000 := by omega
          have hOl := overL_len L k
          have cAl := fun w1 (h : Stk w1 p L) => stk_All p L w1 (by omega) h
          have cAt := fun w1 (h : Stk w1 p L) => stk_At p L k w1 (by omega) h
          have cOv := fun w1 (h : Stk w1 p L) => st_Over p L k w1 (by omega) h
          have cRa := fun (A : Option Addr) (c : Nat) w1 (h : KR w1 A L c) => ref_At A L c k w1 (by omega) h.row
          have cRo := fun (A : Option Addr) (c : Nat) w1 (h : KR w1 A L c) => ref_Over A L c k w1 (by omega) h
          unfold OverR at cRo
          obtain ⟨O, hO⟩ : ∃ O, overL L k = O := ⟨_, rfl⟩
          rw [hO] at cOv hOl
          simp only [hO] at cRo
          obtain ⟨at_, hat⟩ : ∃ a, atP L k = a := ⟨_, rfl⟩
          rw [hat] at cAt
          simp only [hat] at cRa
          have hO10 : O.length ≤ 1000 := by omega
          have hmL : L.length ≤ 6 + (n + 1) := by omega
          clear hL hk hO hat e0 e1 e2 hbd hdb hd hLl
          go_wp2_with (first | (go_at_call 46; (with_reducible refine cDo.mono ?_); rintro e w5 ⟨A5, c5, rfl, hr5, hs5⟩; have hz5 := hs5.2.2.1; have hbw5 := (hbw.out.trans (hs5.2.1.mono hpw)); have f3 := pw_cell_below hbw5 e3; have f4 := pw_cell_below hbw5 e4; have hp5 := hs5.1.lt; replace hr5 := Lib.hid hr5; replace hs5 := Lib.hid hs5.1; replace hbw5 := Lib.hid hbw5) | (go_at_call 29; (with_reducible refine (cSm _).mono ?_); rintro e w6 ⟨rfl, hb6⟩; have hz6 := hb6.size))
          have HSB := Lib.hid (fun w1 (hb : Below w5.heap.size w5 w1) => hs5.out.below hb)
          have HRB := Lib.hid (fun w1 (hb : Below w5.heap.size w5 w1) => hr5.out.kr.below hb)
          replace cRa := cRa A5 c5
          replace cRo := cRo A5 c5
          clear cDo cSm
          go_region_with (first | (go_at_call 39; (with_reducible refine (cAl _ (HSB.out _ ?_)).mono ?_); (focus ((repeat (first | (with_reducible exact Below.refl _ _) | ((with_reducible refine Below.alloc ?_ ?hB _); (case hB => (first | omega | (simp; done) | (simp; omega)))) | ((with_reducible refine Below.setCell ?_ ?hB _); (case hB => (first | omega | (simp; done) | (simp; omega)))) | (with_reducible refine Below.drew ?_) | ((with_reducible refine below_ext_of ?_ ?hB); (case hB => (first | omega | (simp; done) | (simp; omega)))) | ((with_reducible refine Below.trans ?_ (Below.mono (by assumption) ?hB)); (case hB => (first | omega | (simp; done) | (simp; omega)))))); done)); rintro e w8 ⟨v8, rfl, ho8, hb8⟩; have hz8 := hb8.size; (try simp only [World.size_alloc, World.size_drew] at hz8); obtain ⟨hc8, hf8⟩ := bcell hb8; obtain ⟨A8, c8, rfl, hk8⟩ := ho8.kr; clear ho8; replace hk8 := Lib.hid hk8) | (go_at_call 38; (with_reducible refine (law_as _ L _ _ (by omega) (hk8.out.below ?_)).mono ?_); (focus ((repeat (first | (with_reducible exact Below.refl _ _) | ((with_reducible refine Below.alloc ?_ ?hB _); (case hB => (first | omega | (simp; done) | (simp; omega)))) | ((with_reducible refine Below.setCell ?_ ?hB _); (case hB => (first | omega | (simp; done) | (simp; omega)))) | (with_reducible refine Below.drew ?_) | ((with_reducible refine below_ext_of ?_ ?hB); (case hB => (first | omega | (simp; done) | (simp; omega)))) | ((with_reducible refine Below.trans ?_ (Below.mono (by assumption) ?hB)); (case hB => (first | omega | (simp; done) | (simp; omega)))))); done)); rintro e w9 ⟨v9, rfl, ho9, hb9⟩; have hz9 := hb9.size; (try simp only [World.size_alloc, World.size_drew] at hz9); obtain ⟨hc9, hf9⟩ := bcell hb9; obtain ⟨A9, c9, rfl, hk9⟩ := ho9.kr; clear ho9; replace hk9 := Lib.hid hk9) | (go_at_call 37; (with_reducible refine (ref_Same _ _ L L _ _ _ (by omega) (by omega) (hk9.out.row.below ?_) (HRB.out _ ?_).row).mono ?_); (focus ((repeat (first | (with_reducible exact Below.refl _ _) | ((with_reducible refine Below.alloc ?_ ?hB _); (case hB => (first | omega | (simp; done) | (simp; omega)))) | ((with_reducible refine Below.setCell ?_ ?hB _); (case hB => (first | omega | (simp; done) | (simp; omega)))) | (with_reducible refine Below.drew ?_) | ((with_reducible refine below_ext_of ?_ ?hB); (case hB => (first | omega | (simp; done) | (simp; omega)))) | ((with_reducible refine Below.trans ?_ (Below.mono (by assumption) ?hB)); (case hB => (first | omega | (simp; done) | (simp; omega)))))); done)); (focus ((repeat (first | (with_reducible exact Below.refl _ _) | ((with_reducible refine Below.alloc ?_ ?hB _); (case hB => (first | omega | (simp; done) | (simp; omega)))) | ((with_reducible refine Below.setCell ?_ ?hB _); (case hB => (first | omega | (simp; done) | (simp; omega)))) | (with_reducible refine Below.drew ?_) | ((with_reducible refine below_ext_of ?_ ?hB); (case hB => (first | omega | (simp; done) | (simp; omega)))) | ((with_reducible refine Below.trans ?_ (Below.mono (by assumption) ?hB)); (case hB => (first | omega | (simp; done) | (simp; omega)))))); done)); rintro e w10 ⟨rfl, hb10⟩; have hz10 := hb10.size; (try simp only [World.size_alloc, World.size_drew] at hz10); obtain ⟨hc10, hf10⟩ := bcell hb10) | (go_at_call 36; (with_reducible refine (cAt _ (HSB.out _ ?_)).mono ?_); (focus ((repeat (first | (with_reducible exact Below.refl _ _) | ((with_reducible refine Below.alloc ?_ ?hB _); (case hB => (first | omega | (simp; done) | (simp; omega)))) | ((with_reducible refine Below.setCell ?_ ?hB _); (case hB => (first | omega | (simp; done) | (simp; omega)))) | (with_reducible refine Below.drew ?_) | ((with_reducible refine below_ext_of ?_ ?hB); (case hB => (first | omega | (simp; done) | (simp; omega)))) | ((with_reducible refine Below.trans ?_ (Below.mono (by assumption) ?hB)); (case hB => (first | omega | (simp; done) | (simp; omega)))))); done)); rintro e w11 ⟨rfl, hb11⟩; have hz11 := hb11.size; (try simp only [World.size_alloc, World.size_drew] at hz11); obtain ⟨hc11, hf11⟩ := bcell hb11) | (go_at_call 47; (with_reducible refine (cRa _ (HRB.out _ ?_)).mono ?_); (focus ((repeat (first | (with_reducible exact Below.refl _ _) | ((with_reducible refine Below.alloc ?_ ?hB _); (case hB => (first | omega | (simp; done) | (simp; omega)))) | ((with_reducible refine Below.setCell ?_ ?hB _); (case hB => (first | omega | (simp; done) | (simp; omega)))) | (with_reducible refine Below.drew ?_) | ((with_reducible refine below_ext_of ?_ ?hB); (case hB => (first | omega | (simp; done) | (simp; omega)))) | ((with_reducible refine Below.trans ?_ (Below.mono (by assumption) ?hB)); (case hB => (first | omega | (simp; done) | (simp; omega)))))); done)); rintro e w12 ⟨rfl, hb12⟩; have hz12 := hb12.size; (try simp only [World.size_alloc, World.size_drew] at hz12); obtain ⟨hc12, hf12⟩ := bcell hb12) | (go_at_call 43; (with_reducible refine (cOv _ (HSB.out _ ?_)).mono ?_); (focus ((repeat (first | (with_reducible exact Below.refl _ _) | ((with_reducible refine Below.alloc ?_ ?hB _); (case hB => (first | omega | (simp; done) | (simp; omega)))) | ((with_reducible refine Below.setCell ?_ ?hB _); (case hB => (first | omega | (simp; done) | (simp; omega)))) | (with_reducible refine Below.drew ?_) | ((with_reducible refine below_ext_of ?_ ?hB); (case hB => (first | omega | (simp; done) | (simp; omega)))) | ((with_reducible refine Below.trans ?_ (Below.mono (by assumption) ?hB)); (case hB => (first | omega | (simp; done) | (simp; omega)))))); done)); rintro e w13 ⟨v13, rfl, ho13, hb13⟩; have hz13 := hb13.size; (try simp only [World.size_alloc, World.size_drew] at hz13); obtain ⟨hc13, hf13⟩ := bcell hb13; obtain ⟨A13, c13, rfl, hk13⟩ := ho13.kr; clear ho13; replace hk13 := Lib.hid hk13) | (go_at_call 38; (with_reducible refine (law_as _ O _ _ (by omega) (hk13.out.below ?_)).mono ?_); (focus ((repeat (first | (with_reducible exact Below.refl _ _) | ((with_reducible refine Below.alloc ?_ ?hB _); (case hB => (first | omega | (simp; done) | (simp; omega)))) | ((with_reducible refine Below.setCell ?_ ?hB _); (case hB => (first | omega | (simp; done) | (simp; omega)))) | (with_reducible refine Below.drew ?_) | ((with_reducible refine below_ext_of ?_ ?hB); (case hB => (first | omega | (simp; done) | (simp; omega)))) | ((with_reducible refine Below.trans ?_ (Below.mono (by assumption) ?hB)); (case hB => (first | omega | (simp; done) | (simp; omega)))))); done)); rintro e w14 ⟨v14, rfl, ho14, hb14⟩; have hz14 := hb14.size; (try simp only [World.size_alloc, World.size_drew] at hz14); obtain ⟨hc14, hf14⟩ := bcell hb14; obtain ⟨A14, c14, rfl, hk14⟩ := ho14.kr; clear ho14; replace hk14 := Lib.hid hk14) | (go_at_call 48; (with_reducible refine (cRo _ (HRB.out _ ?_)).mono ?_); (focus ((repeat (first | (with_reducible exact Below.refl _ _) | ((with_reducible refine Below.alloc ?_ ?hB _); (case hB => (first | omega | (simp; done) | (simp; omega)))) | ((with_reducible refine Below.setCell ?_ ?hB _); (case hB => (first | omega | (simp; done) | (simp; omega)))) | (with_reducible refine Below.drew ?_) | ((with_reducible refine below_ext_of ?_ ?hB); (case hB => (first | omega | (simp; done) | (simp; omega)))) | ((with_reducible refine Below.trans ?_ (Below.mono (by assumption) ?hB)); (case hB => (first | omega | (simp; done) | (simp; omega)))))); done)); rintro e w15 ⟨A15, c15, rfl, hk15, hb15⟩; have hz15 := hb15.size; (try simp only [World.size_alloc, World.size_drew] at hz15); obtain ⟨hc15, hf15⟩ := bcell hb15; replace hk15 := Lib.hid hk15) | (go_at_call 37; (with_reducible refine (ref_Same _ _ O O _ _ _ (by omega) (by omega) (hk14.out.row.below ?_) (hk15.out.row.below ?_)).mono ?_); (focus ((repeat (first | (with_reducible exact Below.refl _ _) | ((with_reducible refine Below.alloc ?_ ?hB _); (case hB => (first | omega | (simp; done) | (simp; omega)))) | ((with_reducible refine Below.setCell ?_ ?hB _); (case hB => (first | omega | (simp; done) | (simp; omega)))) | (with_reducible refine Below.drew ?_) | ((with_reducible refine below_ext_of ?_ ?hB); (case hB => (first | omega | (simp; done) | (simp; omega)))) | ((with_reducible refine Below.trans ?_ (Below.mono (by assumption) ?hB)); (case hB => (first | omega | (simp; done) | (simp; omega)))))); done)); (focus ((repeat (first | (with_reducible exact Below.refl _ _) | ((with_reducible refine Below.alloc ?_ ?hB _); (case hB => (first | omega | (simp; done) | (simp; omega)))) | ((with_reducible refine Below.setCell ?_ ?hB _); (case hB => (first | omega | (simp; done) | (simp; omega)))) | (with_reducible refine Below.drew ?_) | ((with_reducible refine below_ext_of ?_ ?hB); (case hB => (first | omega | (simp; done) | (simp; omega)))) | ((with_reducible refine Below.trans ?_ (Below.mono (by assumption) ?hB)); (case hB => (first | omega | (simp; done) | (simp; omega)))))); done)); rintro e w16 ⟨rfl, hb16⟩; have hz16 := hb16.size; (try simp only [World.size_alloc, World.size_drew] at hz16); obtain ⟨hc16, hf16⟩ := bcell hb16))
          all_goals
            go_wp2
            go_roundw
            case rel => exact ⟨n + 1, c5, A5, L, by omega, by omega, by go_num, rfl, hmL, Lib.hid (HSB.out _ (by (repeat (first | (with_reducible exact Below.refl _ _) | ((with_reducible refine Below.alloc ?_ ?hB _); (case hB => (first | omega | (simp; done) | (simp; omega)))) | ((with_reducible refine Below.setCell ?_ ?hB _); (case hB => (first | omega | (simp; done) | (simp; omega)))) | (with_reducible refine Below.drew ?_) | ((with_reducible refine below_ext_of ?_ ?hB); (case hB => (first | omega | (simp; done) | (simp; omega)))) | ((with_reducible refine Below.trans ?_ (Below.mono (by assumption) ?hB)); (case hB => (first | omega | (simp; done) | (simp; omega)))))))), Lib.hid (hr5.out.below hp5 (by (repeat (first | (with_reducible exact Below.refl _ _) | ((with_reducible refine Below.alloc ?_ ?hB _); (case hB => (first | omega | (simp; done) | (simp; omega)))) | ((with_reducible refine Below.setCell ?_ ?hB _); (case hB => (first | omega | (simp; done) | (simp; omega)))) | (with_reducible refine Below.drew ?_) | ((with_reducible refine below_ext_of ?_ ?hB); (case hB => (first | omega | (simp; done) | (simp; omega)))) | ((with_reducible refine Below.trans ?_ (Below.mono (by assumption) ?hB)); (case hB => (first | omega | (simp; done) | (simp; omega)))))))), Lib.hid (hbw5.out.trans (Below.mono (show Below w5.heap.size w5 _ from by (repeat (first | (with_reducible exact Below.refl _ _) | ((with_reducible refine Below.alloc ?_ ?hB _); (case hB => (first | omega | (simp; done) | (simp; omega)))) | ((with_reducible refine Below.setCell ?_ ?hB _); (case hB => (first | omega | (simp; done) | (simp; omega)))) | (with_reducible refine Below.drew ?_) | ((with_reducible refine below_ext_of ?_ ?hB); (case hB => (first | omega | (simp; done) | (simp; omega)))) | ((with_reducible refine Below.trans ?_ (Below.mono (by assumption) ?hB)); (case hB => (first | omega | (simp; done) | (simp; omega))))))) (by omega)))⟩
            case measure => simp [intOf]; omega
        · have hg : (n < dl.length ∧ ¬ n < 40) ∨ ¬ n < dl.length := by omega
          have cAl := fun w1 (h : Stk w1 p m) => stk_All p m w1 (by omega) h
          have HSB := Lib.hid (fun w1 (hb : Below wr.heap.size wr w1) => hst.out.below hb)
          have HRB := Lib.hid (fun w1 (hb : Below wr.heap.size wr w1) => hrw.out.kr.below hb)
          have hm10 : m.length ≤ 1000 := by omega
          clear hc hd hdb
          rcases hg with ⟨hg1, hg2⟩ | hg1
          all_goals
            go_wp2_with (first | (go_at_call 39; (with_reducible refine (cAl _ (HSB.out _ ?_)).mono ?_); (focus ((repeat (first | (with_reducible exact Below.refl _ _) | ((with_reducible refine Below.alloc ?_ ?hB _); (case hB => (first | omega | (simp; done) | (simp; omega)))) | ((with_reducible refine Below.setCell ?_ ?hB _); (case hB => (first | omega | (simp; done) | (simp; omega)))) | (with_reducible refine Below.drew ?_) | ((with_reducible refine below_ext_of ?_ ?hB); (case hB => (first | omega | (simp; done) | (simp; omega)))) | ((with_reducible refine Below.trans ?_ (Below.mono (by assumption) ?hB)); (case hB => (first | omega | (simp; done) | (simp; omega)))))); done)); rintro e w8 ⟨v8, rfl, ho8, hb8⟩; have hz8 := hb8.size; (try simp only [World.size_alloc, World.size_drew] at hz8); obtain ⟨hc8, hf8⟩ := bcell hb8; obtain ⟨A8, c8, rfl, hk8⟩ := ho8.kr; clear ho8; replace hk8 := Lib.hid hk8) | (go_at_call 38; (with_reducible refine (law_as _ m _ _ (by omega) (hk8.out.below ?_)).mono ?_); (focus ((repeat (first | (with_reducible exact Below.refl _ _) | ((with_reducible refine Below.alloc ?_ ?hB _); (case hB => (first | omega | (simp; done) | (simp; omega)))) | ((with_reducible refine Below.setCell ?_ ?hB _); (case hB => (first | omega | (simp; done) | (simp; omega)))) | (with_reducible refine Below.drew ?_) | ((with_reducible refine below_ext_of ?_ ?hB); (case hB => (first | omega | (simp; done) | (simp; omega)))) | ((with_reducible refine Below.trans ?_ (Below.mono (by assumption) ?hB)); (case hB => (first | omega | (simp; done) | (simp; omega)))))); done)); rintro e w9 ⟨v9, rfl, ho9, hb9⟩; have hz9 := hb9.size; (try simp only [World.size_alloc, World.size_drew] at hz9); obtain ⟨hc9, hf9⟩ := bcell hb9; obtain ⟨A9, c9, rfl, hk9⟩ := ho9.kr; clear ho9; replace hk9 := Lib.hid hk9) | (go_at_call 37; (with_reducible refine (ref_Same _ _ m m _ _ _ (by omega) (by omega) (hk9.out.row.below ?_) (HRB.out _ ?_).row).mono ?_); (focus ((repeat (first | (with_reducible exact Below.refl _ _) | ((with_reducible refine Below.alloc ?_ ?hB _); (case hB => (first | omega | (simp; done) | (simp; omega)))) | ((with_reducible refine Below.setCell ?_ ?hB _); (case hB => (first | omega | (simp; done) | (simp; omega)))) | (with_reducible refine Below.drew ?_) | ((with_reducible refine below_ext_of ?_ ?hB); (case hB => (first | omega | (simp; done) | (simp; omega)))) | ((with_reducible refine Below.trans ?_ (Below.mono (by assumption) ?hB)); (case hB => (first | omega | (simp; done) | (simp; omega)))))); done)); (focus ((repeat (first | (with_reducible exact Below.refl _ _) | ((with_reducible refine Below.alloc ?_ ?hB _); (case hB => (first | omega | (simp; done) | (simp; omega)))) | ((with_reducible refine Below.setCell ?_ ?hB _); (case hB => (first | omega | (simp; done) | (simp; omega)))) | (with_reducible refine Below.drew ?_) | ((with_reducible refine below_ext_of ?_ ?hB); (case hB => (first | omega | (simp; done) | (simp; omega)))) | ((with_reducible refine Below.trans ?_ (Below.mono (by assumption) ?hB)); (case hB => (first | omega | (simp; done) | (simp; omega)))))); done)); rintro e w10 ⟨rfl, hb10⟩; have hz10 := hb10.size; (try simp only [World.size_alloc, World.size_drew] at hz10); obtain ⟨hc10, hf10⟩ := bcell hb10) | (go_at_call 33; (with_reducible refine (HLV.out _).mono ?_); rintro e w14 ⟨rfl, hb14⟩; have hz14 := hb14.size))
            go_ret
            exact ⟨by simp, hbw.out.trans (Below.mono (show Below wr.heap.size wr w14 from by (repeat (first | (with_reducible exact Below.refl _ _) | ((with_reducible refine Below.alloc ?_ ?hB _); (case hB => (first | omega | (simp; done) | (simp; omega)))) | ((with_reducible refine Below.setCell ?_ ?hB _); (case hB => (first | omega | (simp; done) | (simp; omega)))) | (with_reducible refine Below.drew ?_) | ((with_reducible refine below_ext_of ?_ ?hB); (case hB => (first | omega | (simp; done) | (simp; omega)))) | ((with_reducible refine Below.trans ?_ (Below.mono (by assumption) ?hB)); (case hB => (first | omega | (simp; done) | (simp; omega))))))) hzq)⟩
end Go.Proofs.Yteldbnelfeiifaa
