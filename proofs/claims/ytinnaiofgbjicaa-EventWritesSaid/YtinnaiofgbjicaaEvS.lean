/- The law EventWrites, walked. -/
import Derived.Test.YtinnaiofgbjicaaEvR
namespace Go.Proofs.Ytinnaiofgbjicaa
open Go.RowKit Go.Proofs.YtinnaiofgbjicaaW.PrintWords
set_option linter.unusedSimpArgs false
set_option linter.unusedVariables false
set_option maxRecDepth 1000000
theorem ER.take {w : World} {A : Option Addr} {l : List E4} {c : Nat} (h : ER w A l c) (n : Nat) (hn : n ≤ l.length) : ER w A (l.take n) c ∧ ∀ i, i < n → atE (l.take n) i = atE l i := by
  have hl : (l.take n).length = n := by rw [List.length_take]; omega
  have hx : ∀ i, i < n → atE (l.take n) i = atE l i := fun i hi => by
    unfold atE; rw [List.getD_eq_getElem?_getD, List.getElem?_take, if_pos hi, List.getD_eq_getElem?_getD]
  have := h.le
  refine ⟨⟨by omega, h.nil, h.max, fun i hi => ?_⟩, hx⟩
  rw [hl] at hi
  rw [hx i hi]; exact h.row i (by omega)
theorem add04 (p : Addr) : p.add (0 * 4) = p := by simp [Addr.add]
set_option maxHeartbeats 4000000 in
theorem walk_EventWrites (A : Option Addr) (l : List E4) (c : Nat) (w : World) (hr : ER w A l c) (hbd : ∀ i, i < l.length → (atE l i).Bd) : Calls Try.prog 4 #[.slice A l.length c] w fun e w' => e = .returned (.bool true) ∧ Below w.heap.size w w' := by
  have hrow := hr.row
  have hll := hr.len
  have hle := hr.le
  have HRR := Lib.hid hr
  have HLV := Lib.hid ev_lives
  clear hr
  go_enter Try.func4, Try.ntmps4
  go_wp2
  go_loopw [3, 4] (fun v i wr => ∃ (k : Nat) (m : List E4), k ≤ l.length ∧ k ≤ 6 ∧ i = .int .i64 k ∧ m = goods (l.take k) ∧ Below w.heap.size w wr ∧ OwnE wr w.heap.size 25 v m) (fun _ i _ => 6 - (intOf i).toNat)
  case atStart => exact ⟨0, [], by omega, by omega, rfl, rfl, Below.refl _ _, OwnE.nil _ _ _⟩
  case round =>
    obtain ⟨k, m, hk, hk6, rfl, hm, hbr, hown⟩ := hrel
    have hzr := hbr.size
    have hml : m.length = k := by rw [hm, goods_len]; simp; omega
    have hm6 : m.length ≤ 6 := by omega
    have HM := Lib.hid hm
    have HML := Lib.hid hml
    have HBR := Lib.hid hbr
    clear hml
    by_cases hc : k < l.length ∧ k < 6
    · obtain ⟨hlt, hlt6⟩ := hc
      obtain ⟨ad, rfl, f0, f1, f2, f3⟩ := hrow k hlt
      have q0 := pw_cell_below hbr f0; have q1 := pw_cell_below hbr f1; have q2 := pw_cell_below hbr f2; have q3 := pw_cell_below hbr f3
      have hxb := hbd k hlt
      have ht := Lib.hid (takeEv l k hlt)
      clear hrow hbd hm
      generalize atE l k = x at *
      have cG := fun w => ref_GoodE x w hxb
      have cM := fun w => ev_May x w hxb
      have cN := fun w => ref_MayE x w hxb
      have hE1 : ER w (some (ad.add (k * 4))) [x] (c - k) := ⟨by simp only [List.length_cons, List.length_nil]; omega, (fun e => by cases e), by have := HRR.out.max; omega, fun i hi => by
        have : i = 0 := by simp at hi; omega
        subst this
        refine ⟨_, rfl, ?_, ?_, ?_, ?_⟩
        · rw [add04]; exact f0
        · rw [add04]; exact f1
        · rw [add04]; exact f2
        · rw [add04]; exact f3⟩
      have cO : ∀ w', Below w.heap.size w w' → Calls Try.prog 8 #[.slice (some (ad.add (k * 4))) 1 (c - k)] w' (RowE w' 35 [x]) := fun w' hb => law_of (some (ad.add (k * 4))) [x] (c - k) w' (by simp) (hE1.below hb)
      unfold RowE at cO
      have F := Lib.hid (And.intro f0 (And.intro f1 (And.intro f2 f3)))
      clear hE1
      have HS := Lib.hid (goods_snoc (l.take k) x)
      generalize goodE x = g at *
      generalize mayE x = bx at *
      have hw1 : IntKind.i64.wrap ((k : Int) + 1) = (k : Int) + 1 := by rw [IntKind.wrap_i64]; omega
      have hw2 : (0 : Int) ≤ (k : Int) + 1 := by omega
      have hw3 : ((k : Int) + 1).toNat = k + 1 := by omega
      have hlo := lt_of_cell q0
      clear hxb f0 f1 f2 f3
      go_wp2_with (first | (go_at_call 6; (with_reducible refine (cG _).mono ?_); rintro en w1 ⟨rfl, hb1⟩; have hz1 := hb1.size; (try simp only [World.size_alloc, World.size_setCell, World.size_drew] at hz1)) | ((at_builtin; refine print_append_cells (w0 := w) (w.heap.size) rfl _ _ 22 25 _ 4 32 rfl (Try.underlying22) info_ee rfl (by decide) (by decide) _ _ _ [.int .i64 (g).k, .int .i64 (g).id, .int .i64 (g).a, .int .i64 (g).b] rfl ?_ rfl ?_ (OwnE.below hown ?_) ?_ ?_ ?_ ?_; (focus (go_simp; done)); (focus (simp [Value.oneCell']; done)); (focus ((repeat (first | (with_reducible exact Below.refl _ _) | ((with_reducible refine Below.alloc ?_ ?hB _); (case hB => (first | omega | (simp; done) | (simp; omega)))) | ((with_reducible refine Below.setCell ?_ ?hB _); (case hB => (first | omega | (simp; done) | (simp; omega)))) | (with_reducible refine Below.drew ?_) | ((with_reducible refine below_ext_of ?_ ?hB); (case hB => (first | omega | (simp; done) | (simp; omega)))) | ((with_reducible refine Below.trans ?_ (Below.mono (by assumption) ?hB)); (case hB => (first | omega | (simp; done) | (simp; omega)))))); done)); (focus ((repeat (first | (with_reducible exact Below.refl _ _) | ((with_reducible refine Below.alloc ?_ ?hB _); (case hB => (first | omega | (simp; done) | (simp; omega)))) | ((with_reducible refine Below.setCell ?_ ?hB _); (case hB => (first | omega | (simp; done) | (simp; omega)))) | (with_reducible refine Below.drew ?_) | ((with_reducible refine below_ext_of ?_ ?hB); (case hB => (first | omega | (simp; done) | (simp; omega)))) | ((with_reducible refine Below.trans ?_ (Below.mono (by assumption) ?hB)); (case hB => (first | omega | (simp; done) | (simp; omega)))))); done)); (focus ((first | omega | (simp; done) | (simp; omega)); done)); (focus omega); intro v2 w2 hown2 hb2 _ _; have hz2 := hb2.size; (try simp only [World.size_alloc, World.size_setCell, World.size_drew] at hz2))))
      have s0 := pw_cell_below hb2 F.out.1; have s1 := pw_cell_below hb2 F.out.2.1; have s2 := pw_cell_below hb2 F.out.2.2.1; have s3 := pw_cell_below hb2 F.out.2.2.2
      clear q0 q1 q2 q3
      go_region_with (first | (go_at_call 8; (with_reducible refine (cO _ ?_).mono ?_); (focus ((repeat (first | (with_reducible exact Below.refl _ _) | ((with_reducible refine Below.alloc ?_ ?hB _); (case hB => (first | omega | (simp; done) | (simp; omega)))) | ((with_reducible refine Below.setCell ?_ ?hB _); (case hB => (first | omega | (simp; done) | (simp; omega)))) | (with_reducible refine Below.drew ?_) | ((with_reducible refine below_ext_of ?_ ?hB); (case hB => (first | omega | (simp; done) | (simp; omega)))) | ((with_reducible refine Below.trans ?_ (Below.mono (by assumption) ?hB)); (case hB => (first | omega | (simp; done) | (simp; omega)))))); done)); rintro en w3 ⟨v3, rfl, ho3, hb3⟩; obtain ⟨A3, c3, rfl, hr3⟩ := ho3.er; clear ho3; obtain ⟨ad3, rfl, p0, p1, p2, p3⟩ := hr3.row 0 (by simp); clear hr3; replace p0 : w3.cell? ad3 = some (.int .i64 x.k) := (by rw [add04] at p0; exact p0); replace p1 : w3.cell? ⟨ad3.block, ad3.off + 1, none⟩ = some (.int .i64 x.id) := (by rw [add04] at p1; exact p1); replace p2 : w3.cell? ⟨ad3.block, ad3.off + 2, none⟩ = some (.int .i64 x.a) := (by rw [add04] at p2; exact p2); replace p3 : w3.cell? ⟨ad3.block, ad3.off + 3, none⟩ = some (.int .i64 x.b) := (by rw [add04] at p3; exact p3); (try (have s0 := pw_cell_below hb3 s0; have s1 := pw_cell_below hb3 s1; have s2 := pw_cell_below hb3 s2; have s3 := pw_cell_below hb3 s3)); have hz3 := hb3.size; (try simp only [World.size_alloc, World.size_setCell, World.size_drew] at hz3)) | (go_at_call 10; (with_reducible refine (cM _).mono ?_); rintro en w4 ⟨rfl, hb4⟩; (try (have p0 := pw_cell_below hb4 p0; have p1 := pw_cell_below hb4 p1; have p2 := pw_cell_below hb4 p2; have p3 := pw_cell_below hb4 p3)); (try (have s0 := pw_cell_below hb4 s0; have s1 := pw_cell_below hb4 s1; have s2 := pw_cell_below hb4 s2; have s3 := pw_cell_below hb4 s3)); have hz4 := hb4.size; (try simp only [World.size_alloc, World.size_setCell, World.size_drew] at hz4)) | (go_at_call 11; (with_reducible refine (cN _).mono ?_); rintro en w5 ⟨rfl, hb5⟩; (try (have p0 := pw_cell_below hb5 p0; have p1 := pw_cell_below hb5 p1; have p2 := pw_cell_below hb5 p2; have p3 := pw_cell_below hb5 p3)); (try (have s0 := pw_cell_below hb5 s0; have s1 := pw_cell_below hb5 s1; have s2 := pw_cell_below hb5 s2; have s3 := pw_cell_below hb5 s3)); have hz5 := hb5.size; (try simp only [World.size_alloc, World.size_setCell, World.size_drew] at hz5)))
      all_goals
        go_wp2
        go_roundw
        case rel => exact ⟨k + 1, m ++ [g], by omega, by omega, by go_num, by rw [ht.out, HS.out, ← HM.out], by (repeat (first | (with_reducible exact Below.refl _ _) | ((with_reducible refine Below.alloc ?_ ?hB _); (case hB => (first | omega | (simp; done) | (simp; omega)))) | ((with_reducible refine Below.setCell ?_ ?hB _); (case hB => (first | omega | (simp; done) | (simp; omega)))) | (with_reducible refine Below.drew ?_) | ((with_reducible refine below_ext_of ?_ ?hB); (case hB => (first | omega | (simp; done) | (simp; omega)))) | ((with_reducible refine Below.trans ?_ (Below.mono (by assumption) ?hB)); (case hB => (first | omega | (simp; done) | (simp; omega)))))), (OwnE.snoc hown2).below (show Below w2.heap.size w2 _ from by (repeat (first | (with_reducible exact Below.refl _ _) | ((with_reducible refine Below.alloc ?_ ?hB _); (case hB => (first | omega | (simp; done) | (simp; omega)))) | ((with_reducible refine Below.setCell ?_ ?hB _); (case hB => (first | omega | (simp; done) | (simp; omega)))) | (with_reducible refine Below.drew ?_) | ((with_reducible refine below_ext_of ?_ ?hB); (case hB => (first | omega | (simp; done) | (simp; omega)))) | ((with_reducible refine Below.trans ?_ (Below.mono (by assumption) ?hB)); (case hB => (first | omega | (simp; done) | (simp; omega)))))))⟩
        case measure => simp [intOf]; omega
    · have hg : (k < l.length ∧ ¬ k < 6) ∨ ¬ k < l.length := by omega
      have hmay := goods_may (l.take k)
      have hmb := goods_bd (l.take k)
      rw [← hm] at hmay hmb
      obtain rfl : k = m.length := HML.out.symm
      obtain ⟨A1, c1, rfl, hr1⟩ := hown.er
      obtain ⟨hrw, hat⟩ := HRR.out.take m.length hk
      have hrl : (l.take m.length).length = m.length := by rw [List.length_take]; omega
      have hrb : ∀ i, i < (l.take m.length).length → (atE (l.take m.length) i).Bd := fun i hi => by rw [hrl] at hi; rw [hat i hi]; exact hbd i (by omega)
      have hdl := catE_len m
      have hrd := read_cat m hmay
      rcases hwr : wrP (l.take m.length) with ⟨ie, rb⟩
      have cO1 : ∀ w', Below w.heap.size w w' → Calls Try.prog 8 #[.slice A m.length c] w' (RowE w' 35 (l.take m.length)) := fun w' hb => by
        have := law_of A (l.take m.length) c w' (by omega) (hrw.below hb)
        rwa [hrl] at this
      have cW1 : ∀ A c w', ER w' A (l.take m.length) c → Calls Try.prog 7 #[.slice A (l.take m.length).length c] w' (fun e w'' => ∃ A' c', e = .returned (.tuple #[.slice A' rb.length c', .int .i64 ie]) ∧ BS w'' A' rb c' ∧ Below w'.heap.size w' w'') := fun A c w' h => by
        have := ev_Write A (l.take m.length) c w' (by omega) h hrb
        rw [hwr] at this; exact this
      have cW2 : ∀ w', Below w.heap.size w w' → Calls Try.prog 12 #[.slice A m.length c] w' (fun e w'' => ∃ A' c', e = .returned (.tuple #[.slice A' rb.length c', .int .i64 ie]) ∧ BS w'' A' rb c' ∧ Below w'.heap.size w' w'') := fun w' hb => by
        have := ref_WriteE A (l.take m.length) c w' (by omega) (hrw.below hb) hrb
        rw [hwr, hrl] at this; exact this
      have cO2 := fun w' h => law_of A1 m c1 w' (by omega) h
      have cW3 := fun A c w' h => write_ok A m c w' (by omega) h hmay hmb
      obtain ⟨d, hd⟩ : ∃ d, catE m = d := ⟨_, rfl⟩
      rw [hd] at cW3 hrd hdl
      have cR : ∀ A c w', BS w' A d c → Calls Try.prog 13 #[.slice A d.length c] w' (fun en w'' => ∃ v, en = .returned (.tuple #[v, .int .i64 0]) ∧ OwnE w'' w'.heap.size 35 v m ∧ Below w'.heap.size w' w'') := fun A c w' h => by
        have := ev_Read A d c w' h (by omega)
        rw [hrd] at this; exact this
      have cA := fun A c w' h => law_asE A m c w' (by omega) h
      have cSa : ∀ A1 A2 c1 c2 w', ER w' A1 m c1 → ER w' A2 m c2 → Calls Try.prog 14 #[.slice A1 m.length c1, .slice A2 m.length c2] w' (fun e w'' => e = .returned (.bool true) ∧ Below w'.heap.size w' w'') := fun A1 A2 c1 c2 w' h1 h2 => by
        have := ref_SameE A1 A2 m m c1 c2 w' h1 h2
        rw [decide_eq_true rfl] at this; exact this
      unfold RowE at cO1 cO2 cA
      unfold WrOk at cW3
      have HR1 := Lib.hid hr1
      clear hm hown hmay hmb hrow hbd hr1 hc hat hrb hrw hwr hd hrd hrl
      generalize l.take m.length = raw at *
      rcases hg with ⟨hg1, hg2⟩ | hg1
      all_goals
        go_wp2_with (first | (go_at_call 8; (with_reducible refine (cO1 _ ?_).mono ?_); (focus ((repeat (first | (with_reducible exact Below.refl _ _) | ((with_reducible refine Below.alloc ?_ ?hB _); (case hB => (first | omega | (simp; done) | (simp; omega)))) | ((with_reducible refine Below.setCell ?_ ?hB _); (case hB => (first | omega | (simp; done) | (simp; omega)))) | (with_reducible refine Below.drew ?_) | ((with_reducible refine below_ext_of ?_ ?hB); (case hB => (first | omega | (simp; done) | (simp; omega)))) | ((with_reducible refine Below.trans ?_ (Below.mono (by assumption) ?hB)); (case hB => (first | omega | (simp; done) | (simp; omega)))))); done)); rintro en w3 ⟨v3, rfl, ho3, hb3⟩; obtain ⟨A3, c3, rfl, hr3⟩ := ho3.er; clear ho3; have hz3 := hb3.size; replace hr3 := Lib.hid hr3; (try simp only [World.size_alloc, World.size_setCell, World.size_drew] at hz3)) | (go_at_call 7; (with_reducible refine (cW1 _ _ _ hr3.out).mono ?_); rintro en w4 ⟨A4, c4, rfl, hs4, hb4⟩; have hz4 := hb4.size; replace hs4 := Lib.hid hs4; (try simp only [World.size_alloc, World.size_setCell, World.size_drew] at hz4)) | (go_at_call 12; (with_reducible refine (cW2 _ ?_).mono ?_); (focus ((repeat (first | (with_reducible exact Below.refl _ _) | ((with_reducible refine Below.alloc ?_ ?hB _); (case hB => (first | omega | (simp; done) | (simp; omega)))) | ((with_reducible refine Below.setCell ?_ ?hB _); (case hB => (first | omega | (simp; done) | (simp; omega)))) | (with_reducible refine Below.drew ?_) | ((with_reducible refine below_ext_of ?_ ?hB); (case hB => (first | omega | (simp; done) | (simp; omega)))) | ((with_reducible refine Below.trans ?_ (Below.mono (by assumption) ?hB)); (case hB => (first | omega | (simp; done) | (simp; omega)))))); done)); rintro en w5 ⟨A5, c5, rfl, hs5, hb5⟩; have hz5 := hb5.size; replace hs5 := Lib.hid hs5; (try simp only [World.size_alloc, World.size_setCell, World.size_drew] at hz5)) | (go_at_call 8; (with_reducible refine (cO2 _ (HR1.out.below ?_)).mono ?_); (focus ((repeat (first | (with_reducible exact Below.refl _ _) | ((with_reducible refine Below.alloc ?_ ?hB _); (case hB => (first | omega | (simp; done) | (simp; omega)))) | ((with_reducible refine Below.setCell ?_ ?hB _); (case hB => (first | omega | (simp; done) | (simp; omega)))) | (with_reducible refine Below.drew ?_) | ((with_reducible refine below_ext_of ?_ ?hB); (case hB => (first | omega | (simp; done) | (simp; omega)))) | ((with_reducible refine Below.trans ?_ (Below.mono (by assumption) ?hB)); (case hB => (first | omega | (simp; done) | (simp; omega)))))); done)); rintro en w6 ⟨v6, rfl, ho6, hb6⟩; obtain ⟨A6, c6, rfl, hr6⟩ := ho6.er; clear ho6; have hz6 := hb6.size; replace hr6 := Lib.hid hr6; (try simp only [World.size_alloc, World.size_setCell, World.size_drew] at hz6)) | (go_at_call 7; (with_reducible refine (cW3 _ _ _ hr6.out).mono ?_); rintro en w7 ⟨A7, c7, rfl, hs7, hb7⟩; have hz7 := hb7.size; replace hs7 := Lib.hid hs7; (try simp only [World.size_alloc, World.size_setCell, World.size_drew] at hz7)) | (go_at_call 13; (with_reducible refine (cR _ _ _ hs7.out).mono ?_); rintro en w8 ⟨v8, rfl, ho8, hb8⟩; obtain ⟨A8, c8, rfl, hr8⟩ := ho8.er; clear ho8; have hz8 := hb8.size; replace hr8 := Lib.hid hr8; (try simp only [World.size_alloc, World.size_setCell, World.size_drew] at hz8); have st4 := str_reads (c := c4) (hs4.out.below (show Below w4.heap.size w4 w8 from by (repeat (first | (with_reducible exact Below.refl _ _) | ((with_reducible refine Below.alloc ?_ ?hB _); (case hB => (first | omega | (simp; done) | (simp; omega)))) | ((with_reducible refine Below.setCell ?_ ?hB _); (case hB => (first | omega | (simp; done) | (simp; omega)))) | (with_reducible refine Below.drew ?_) | ((with_reducible refine below_ext_of ?_ ?hB); (case hB => (first | omega | (simp; done) | (simp; omega)))) | ((with_reducible refine Below.trans ?_ (Below.mono (by assumption) ?hB)); (case hB => (first | omega | (simp; done) | (simp; omega)))))))).rd; have st5 := str_reads (c := c5) (hs5.out.below (show Below w5.heap.size w5 w8 from by (repeat (first | (with_reducible exact Below.refl _ _) | ((with_reducible refine Below.alloc ?_ ?hB _); (case hB => (first | omega | (simp; done) | (simp; omega)))) | ((with_reducible refine Below.setCell ?_ ?hB _); (case hB => (first | omega | (simp; done) | (simp; omega)))) | (with_reducible refine Below.drew ?_) | ((with_reducible refine below_ext_of ?_ ?hB); (case hB => (first | omega | (simp; done) | (simp; omega)))) | ((with_reducible refine Below.trans ?_ (Below.mono (by assumption) ?hB)); (case hB => (first | omega | (simp; done) | (simp; omega)))))))).rd; generalize strOfNums rb = sb at *) | (go_at_call 15; (with_reducible refine (cA _ _ _ (hr8.out.below ?_)).mono ?_); (focus ((repeat (first | (with_reducible exact Below.refl _ _) | ((with_reducible refine Below.alloc ?_ ?hB _); (case hB => (first | omega | (simp; done) | (simp; omega)))) | ((with_reducible refine Below.setCell ?_ ?hB _); (case hB => (first | omega | (simp; done) | (simp; omega)))) | (with_reducible refine Below.drew ?_) | ((with_reducible refine below_ext_of ?_ ?hB); (case hB => (first | omega | (simp; done) | (simp; omega)))) | ((with_reducible refine Below.trans ?_ (Below.mono (by assumption) ?hB)); (case hB => (first | omega | (simp; done) | (simp; omega)))))); done)); rintro en w9 ⟨v9, rfl, ho9, hb9⟩; obtain ⟨A9, c9, rfl, hr9⟩ := ho9.er; clear ho9; have hz9 := hb9.size; replace hr9 := Lib.hid hr9; (try simp only [World.size_alloc, World.size_setCell, World.size_drew] at hz9)) | (go_at_call 14; (with_reducible refine (cSa _ _ _ _ _ hr9.out (HR1.out.below ?_)).mono ?_); (focus ((repeat (first | (with_reducible exact Below.refl _ _) | ((with_reducible refine Below.alloc ?_ ?hB _); (case hB => (first | omega | (simp; done) | (simp; omega)))) | ((with_reducible refine Below.setCell ?_ ?hB _); (case hB => (first | omega | (simp; done) | (simp; omega)))) | (with_reducible refine Below.drew ?_) | ((with_reducible refine below_ext_of ?_ ?hB); (case hB => (first | omega | (simp; done) | (simp; omega)))) | ((with_reducible refine Below.trans ?_ (Below.mono (by assumption) ?hB)); (case hB => (first | omega | (simp; done) | (simp; omega)))))); done)); rintro en w10 ⟨rfl, hb10⟩; have hz10 := hb10.size; (try simp only [World.size_alloc, World.size_setCell, World.size_drew] at hz10)) | (go_at_call 9; (with_reducible refine (HLV.out _).mono ?_); rintro en w11 ⟨rfl, hb11⟩; have hz11 := hb11.size))
        go_ret
        exact ⟨rfl, by (repeat (first | (with_reducible exact Below.refl _ _) | ((with_reducible refine Below.alloc ?_ ?hB _); (case hB => (first | omega | (simp; done) | (simp; omega)))) | ((with_reducible refine Below.setCell ?_ ?hB _); (case hB => (first | omega | (simp; done) | (simp; omega)))) | (with_reducible refine Below.drew ?_) | ((with_reducible refine below_ext_of ?_ ?hB); (case hB => (first | omega | (simp; done) | (simp; omega)))) | ((with_reducible refine Below.trans ?_ (Below.mono (by assumption) ?hB)); (case hB => (first | omega | (simp; done) | (simp; omega))))))⟩
end Go.Proofs.Ytinnaiofgbjicaa
