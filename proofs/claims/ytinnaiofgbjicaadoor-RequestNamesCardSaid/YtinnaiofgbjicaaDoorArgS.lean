/- The program's reader of bytes, walked. -/
import Derived.Test.YtinnaiofgbjicaaDoorArgR
import Derived.Test.YtinnaiofgbjicaaDoorArgL
namespace Go.Proofs.YtinnaiofgbjicaaDoor
open Go.RowKit Go.Proofs.YtinnaiofgbjicaaDoorW.PrintWords
set_option linter.unusedSimpArgs false
set_option linter.unusedVariables false
set_option maxRecDepth 1000000
/-- A reader in a block: its bytes, its error. -/
def Rd (w : World) (p : Nat) (b : List Int) (e : Int) : Prop := ∃ A c, w.heap[p]? = some (.cells #[.slice A b.length c, .int .i64 e] 120 (0, 0)) ∧ b.length ≤ c ∧ ReadsInt w .u8 A b.length b ∧ (A = none → c = 0) ∧ (0 < b.length → ∀ ad, A = some ad → ad.block < p)
theorem add_blk (ad : Addr) (j : Nat) : (ad.add j).block = ad.block := by unfold Addr.add; split <;> rfl
theorem Rd.below {w w1 : World} {p : Nat} {b : List Int} {e : Int} (h : Rd w p b e) (hb : Below w.heap.size w w1) : Rd w1 p b e := by
  obtain ⟨A, c, h1, h2, h3, h4⟩ := h
  exact ⟨A, c, blk_below h1 hb, h2, h3.below hb, h4⟩
theorem Rd.mk' {w : World} {p : Nat} {b : List Int} {e : Int} {A : Option Addr} {n c : Nat} (h0 : w.heap[p]? = some (.cells #[.slice A n c, .int .i64 e] 120 (0, 0))) (hn : b.length = n) (hc : n ≤ c) (hr : ReadsInt w .u8 A n b) (hz : A = none → c = 0) (hne : 0 < n → ∀ ad, A = some ad → ad.block < p) : Rd w p b e := by
  subst hn; exact ⟨A, c, h0, hc, hr, hz, hne⟩
theorem Rd.lt {w : World} {p : Nat} {b : List Int} {e : Int} (h : Rd w p b e) : p < w.heap.size := by
  obtain ⟨A, c, h1, h2, h3, h4⟩ := h
  exact blk_lt h1
theorem grown_set {w : World} {p i : Nat} {v : Value} : w.grownBy (w.setCell ⟨p, i, none⟩ v) (some p) :=
  ⟨rfl, rfl, rfl, by simp, fun k hk hne => Below.heap_setCell w ⟨p, i, none⟩ v k (fun e => hne (by rw [e]))⟩
theorem reads_grown {w w1 : World} {A : Option Addr} {n p : Nat} {xs : List Int} (h : ReadsInt w .u8 A n xs) (hg : w.grownBy w1 (some p)) (hne : 0 < n → ∀ ad, A = some ad → ad.block ≠ p) : ReadsInt w1 .u8 A n xs :=
  ⟨h.1, h.2.1, fun hn => by
    obtain ⟨ad, e, hc⟩ := h.2.2 hn
    exact ⟨ad, e, fun j hj => hg.cell (hc j hj) (fun e1 => hne hn ad e (by injection e1 with e1; exact (add_blk _ _).symm.trans e1))⟩⟩
theorem reads_take {w : World} {A : Option Addr} {m n : Nat} {xs : List Int} (h : ReadsInt w .u8 A m xs) (hn : n ≤ m) : ReadsInt w .u8 A n (xs.take n) :=
  ⟨by rw [List.length_take, h.1]; omega, by have := h.2.1; omega, fun h0 => by
    obtain ⟨ad, e, hc⟩ := h.2.2 (by omega)
    refine ⟨ad, e, fun j hj => ?_⟩
    rw [hc j (by omega), List.getD_eq_getElem?_getD, List.getD_eq_getElem?_getD, List.getElem?_take, if_pos hj]⟩
theorem reads_drop {w : World} {ad : Addr} {m n : Nat} {xs : List Int} (h : ReadsInt w .u8 (some ad) m xs) (hn : n ≤ m) : ReadsInt w .u8 (some (ad.add n)) (m - n) (xs.drop n) :=
  ⟨by rw [List.length_drop, h.1], by have := h.2.1; omega, fun h0 => by
    obtain ⟨ad', e, hc⟩ := h.2.2 (by omega)
    injection e with e; subst e
    refine ⟨_, rfl, fun j hj => ?_⟩
    have := hc (n + j) (by omega)
    rw [List.getD_eq_getElem?_getD, List.getElem?_drop, ← List.getD_eq_getElem?_getD, ← this]
    rw [Addr.add_add]⟩
theorem own_base {w : World} {base p n c : Nat} {t : TypeId} {A : Option Addr} {xs : List Value} (h : w.ownsRow base t 1 (.slice A n c) n xs) (hp : p < base) : ∀ ad, A = some ad → ad.block ≠ p := by
  rintro ad rfl; have := (World.ownsRow.lt h ad.block rfl).1; omega
theorem own_ge {w : World} {base n c : Nat} {t : TypeId} {A : Option Addr} {xs : List Value} (h : w.ownsRow base t 1 (.slice A n c) n xs) : ∀ ad, A = some ad → base ≤ ad.block := by
  rintro ad rfl; exact (World.ownsRow.lt h ad.block rfl).1
theorem own_reads' {w : World} {base n : Nat} {v : Value} {l : List Int} (h : w.ownsRow base 5 1 v n (nums .u8 l)) : ∃ A c, v = .slice A n c ∧ ReadsInt w .u8 A n l := by
  have hn : n = l.length := by have := h.1; simp [nums] at this; omega
  subst hn; exact own_reads h
theorem own_reads_at {w : World} {base n c : Nat} {A : Option Addr} {l : List Int} (h : w.ownsRow base 5 1 (.slice A n c) n (nums .u8 l)) : ReadsInt w .u8 A n l := by
  obtain ⟨A', c', e, hr⟩ := own_reads' h
  injection e with e1; subst e1; exact hr
def TakeP (w : World) (p n : Nat) (b : List Int) (e : Int) (en : Ending) (w' : World) : Prop := ∃ A c, en = .returned (.slice A n c) ∧ n ≤ c ∧ ReadsInt w' .u8 A n (takeV n b) ∧ Rd w' p (takeR n b) (takeE n b e) ∧ w.grownBy w' (some p) ∧ ∀ ad, A = some ad → w.heap.size ≤ ad.block
theorem rd_take (p n : Nat) (b : List Int) (e : Int) (w : World) (hn : n ≤ 1000000) (h : Rd w p b e) : Calls Tryd.prog 97 #[(.pointer (some ⟨p, 0, none⟩)), .int .i64 n] w (TakeP w p n b e) := by
  obtain ⟨A, c, h0, hc, hr, hz, hne⟩ := h
  have hlt := blk_lt h0
  have g0 : w.cell? ⟨p, 0, none⟩ = some (.slice A b.length c) := blk_cell h0 0
  have g1 : w.cell? ⟨p, 1, none⟩ = some (.int .i64 e) := blk_cell h0 1
  have H0 := Lib.hid h0
  have HR := Lib.hid hr
  have HNE := Lib.hid hne
  have HZ := Lib.hid hz
  clear h0 hr hne hz
  have f0 : w.frozen? ⟨p, 0, none⟩ = false := blk_frozen H0.out 0
  have f1 : w.frozen? ⟨p, 1, none⟩ = false := blk_frozen H0.out 1
  by_cases hs : n ≤ b.length
  · have HT := Lib.hid (show takeV n b = b.take n ∧ takeR n b = b.drop n ∧ takeE n b e = e from by unfold takeV takeR takeE; rw [if_pos hs, if_pos hs, if_pos hs]; exact ⟨rfl, rfl, rfl⟩)
    have HE := Lib.hid (show (b.take n).length = n from by simp; omega)
    have HL := Lib.hid hlt
    have cC := fun w1 c (hb : Below w.heap.size w w1) => sl_Clone A n c (b.take n) w1 (by omega) (reads_take (HR.out.below hb) hs)
    cases A with
    | none =>
      have hc0 := HZ.out rfl
      have hb0 : b.length = 0 := by omega
      obtain rfl : n = 0 := by omega
      subst hc0
      rw [hb0] at g0
      go_enter Tryd.func97, Tryd.ntmps97
      go_wp2_with (first | (go_at_call 104; (with_reducible refine (cC _ _ (by (repeat (first | (with_reducible exact Below.refl _ _) | ((with_reducible refine Below.alloc ?_ ?hB _); (case hB => (first | omega | (simp; done) | (simp; omega)))) | ((with_reducible refine Below.setCell ?_ ?hB _); (case hB => (first | omega | (simp; done) | (simp; omega)))) | (with_reducible refine Below.drew ?_) | ((with_reducible refine below_ext_of ?_ ?hB); (case hB => (first | omega | (simp; done) | (simp; omega)))) | ((with_reducible refine Below.trans ?_ (Below.mono (by assumption) ?hB)); (case hB => (first | omega | (simp; done) | (simp; omega)))))))).mono ?_); rintro e1 w1 ⟨v1, rfl, ho1, hb1⟩; rw [HE.out] at ho1; obtain ⟨A1, c1, rfl, hr1⟩ := own_reads' ho1; have hz1 := hb1.size; have p0 := pw_cell_below hb1 g0; have p1 := pw_cell_below hb1 g1; have BB := Lib.hid (blk_below H0.out hb1); have k0 : w1.frozen? ⟨p, 0, none⟩ = false := blk_frozen BB.out 0))
      go_ret
      exact ⟨_, _, rfl, own_le ho1, by rw [HT.out.1]; exact reads_grown hr1 grown_set (fun _ => own_base ho1 HL.out), Rd.mk' (HT.out.2.2 ▸ blk_set BB.out 0 _) (by rw [HT.out.2.1]; simp [hb0]) (Nat.le_refl _) (by rw [HT.out.2.1, List.eq_nil_of_length_eq_zero hb0]; exact reads_nil _ _) (fun _ => rfl) (fun _ ad e => by cases e), by (refine World.grownBy.trans (grown_of_below (show Below w.heap.size w _ from ?_) _) grown_set; assumption), own_ge ho1⟩
    | some ad =>
    by_cases hcn : c = n
    · subst hcn
      have hb0 : b.length = c := by omega
      rw [hb0] at g0
      go_enter Tryd.func97, Tryd.ntmps97
      go_wp2_with (first | (go_at_call 104; (with_reducible refine (cC _ _ (by (repeat (first | (with_reducible exact Below.refl _ _) | ((with_reducible refine Below.alloc ?_ ?hB _); (case hB => (first | omega | (simp; done) | (simp; omega)))) | ((with_reducible refine Below.setCell ?_ ?hB _); (case hB => (first | omega | (simp; done) | (simp; omega)))) | (with_reducible refine Below.drew ?_) | ((with_reducible refine below_ext_of ?_ ?hB); (case hB => (first | omega | (simp; done) | (simp; omega)))) | ((with_reducible refine Below.trans ?_ (Below.mono (by assumption) ?hB)); (case hB => (first | omega | (simp; done) | (simp; omega)))))))).mono ?_); rintro e1 w1 ⟨v1, rfl, ho1, hb1⟩; rw [HE.out] at ho1; obtain ⟨A1, c1, rfl, hr1⟩ := own_reads' ho1; have hz1 := hb1.size; have p0 := pw_cell_below hb1 g0; have p1 := pw_cell_below hb1 g1; have BB := Lib.hid (blk_below H0.out hb1); have k0 : w1.frozen? ⟨p, 0, none⟩ = false := blk_frozen BB.out 0))
      go_ret
      exact ⟨_, _, rfl, own_le ho1, by rw [HT.out.1]; exact reads_grown hr1 grown_set (fun _ => own_base ho1 HL.out), Rd.mk' (HT.out.2.2 ▸ blk_set BB.out 0 _) (by rw [HT.out.2.1]; simp [hb0]) (Nat.zero_le _) (by rw [HT.out.2.1, List.drop_eq_nil_of_le (by omega)]; exact reads_nil _ _) (fun h => by cases h) (fun h => absurd h (by omega)), by (refine World.grownBy.trans (grown_of_below (show Below w.heap.size w _ from ?_) _) grown_set; assumption), own_ge ho1⟩
    · go_enter Tryd.func97, Tryd.ntmps97
      go_wp2_with (first | (go_at_call 104; (with_reducible refine (cC _ _ (by (repeat (first | (with_reducible exact Below.refl _ _) | ((with_reducible refine Below.alloc ?_ ?hB _); (case hB => (first | omega | (simp; done) | (simp; omega)))) | ((with_reducible refine Below.setCell ?_ ?hB _); (case hB => (first | omega | (simp; done) | (simp; omega)))) | (with_reducible refine Below.drew ?_) | ((with_reducible refine below_ext_of ?_ ?hB); (case hB => (first | omega | (simp; done) | (simp; omega)))) | ((with_reducible refine Below.trans ?_ (Below.mono (by assumption) ?hB)); (case hB => (first | omega | (simp; done) | (simp; omega)))))))).mono ?_); rintro e1 w1 ⟨v1, rfl, ho1, hb1⟩; rw [HE.out] at ho1; obtain ⟨A1, c1, rfl, hr1⟩ := own_reads' ho1; have hz1 := hb1.size; have p0 := pw_cell_below hb1 g0; have p1 := pw_cell_below hb1 g1; have BB := Lib.hid (blk_below H0.out hb1); have k0 : w1.frozen? ⟨p, 0, none⟩ = false := blk_frozen BB.out 0))
      go_ret
      exact ⟨_, _, rfl, own_le ho1, by rw [HT.out.1]; exact reads_grown hr1 grown_set (fun _ => own_base ho1 HL.out), Rd.mk' (HT.out.2.2 ▸ blk_set BB.out 0 _) (by rw [HT.out.2.1]; simp) (by omega) (by rw [HT.out.2.1]; exact reads_grown (reads_drop (HR.out.below hb1) hs) grown_set (fun h a e => by injection e with e; rw [← e, add_blk]; exact Nat.ne_of_lt (HNE.out (by omega) _ rfl))) (fun h => by cases h) (fun h a e => by injection e with e; rw [← e, add_blk]; exact HNE.out (by omega) _ rfl), by (refine World.grownBy.trans (grown_of_below (show Below w.heap.size w _ from ?_) _) grown_set; assumption), own_ge ho1⟩
  · have HT := Lib.hid (show takeV n b = List.replicate n 0 ∧ takeR n b = [] ∧ takeE n b e = 3 from by unfold takeV takeR takeE; rw [if_neg hs, if_neg hs, if_neg hs]; exact ⟨rfl, rfl, rfl⟩)
    have mk := print_make (P := Tryd.prog) 22 5 .u8 1 Tryd.underlying22 info_u8 (by decide) n (by omega)
    go_enter Tryd.func97, Tryd.ntmps97
    go_wp2
    go_ret
    have ho := own_made ((w.setCell ⟨p, 0, none⟩ (.slice none 0 0)).setCell ⟨p, 1, none⟩ (.int .i64 3)) 0 5 .u8 n (Nat.zero_le _) (by omega)
    simp only [World.size_setCell] at ho
    refine ⟨some ⟨w.heap.size, 0, none⟩, n, rfl, Nat.le_refl _, by rw [HT.out.1]; exact (own_reads_at ho), ?_, (grown_set.trans grown_set).trans (World.grownBy_alloc _ _ _), fun ad e => by injection e with e; subst e; exact Nat.le_refl _⟩
    rw [HT.out.2.1, HT.out.2.2]
    exact Rd.mk' (A := none) (n := 0) (c := 0) (blk_alloc (blk_set (blk_set H0.out 0 _) 1 _) _) rfl (Nat.le_refl _) (reads_nil _ _) (fun _ => rfl) (fun _ ad e => by cases e)
theorem orN (x y : Int) (h₀ : 0 ≤ x) (hx : x % 256 = 0) (h₁ : x < 9223372036854775808) (hy₀ : 0 ≤ y) (hy : y < 256) : bits .or .i64 x y = x + y :=
  bits_join .i64 63 (by decide) (fun n h0 h1 => by rw [IntKind.wrap_i64]; omega) 8 x y h₀ (by omega) (by omega) hy₀ (by omega) (by omega)
theorem or0 (c : Int) (h : 0 ≤ c ∧ c ≤ 255) : bits .or .i64 0 c = c := by rw [orN 0 c (by omega) (by omega) (by omega) h.1 (by omega)]; omega
theorem shlOr (n c : Int) (h0 : 0 ≤ n) (h1 : n < 36028797018963968) (h : 0 ≤ c ∧ c ≤ 255) : bits .or .i64 (wrap64 (n * 256)) c = n * 256 + c := by
  have e : wrap64 (n * 256) = n * 256 := by unfold wrap64; omega
  rw [e, orN _ c (by omega) (by omega) (by omega) h.1 (by omega)]
def UnsP (w : World) (p : Nat) (b : List Int) (e : Int) (en : Ending) (w' : World) : Prop := en = .returned (.int .i64 (numU (takeV 4 b))) ∧ Rd w' p (takeR 4 b) (takeE 4 b e) ∧ w.grownBy w' (some p)
theorem rd_unsigned (p : Nat) (b : List Int) (e : Int) (w : World) (hb : Byt b) (h : Rd w p b e) : Calls Tryd.prog 96 #[(.pointer (some ⟨p, 0, none⟩))] w (UnsP w p b e) := by
  have cT : Calls Tryd.prog 97 #[(.pointer (some ⟨p, 0, none⟩)), .int .i64 4] w (TakeP w p 4 b e) := rd_take p 4 b e w (by omega) h
  have hl := takeV_len 4 b
  have hy := takeV_byt hb 4
  obtain ⟨x, hx⟩ : ∃ x, takeV 4 b = x := ⟨_, rfl⟩
  have hN := Lib.hid (show numU (takeV 4 b) = x.getD 0 0 * 16777216 + x.getD 1 0 * 65536 + x.getD 2 0 * 256 + x.getD 3 0 from by rw [hx]; rfl)
  unfold TakeP at cT
  rw [hx] at cT hl hy
  have y0 := hy.at_ 0; have y1 := hy.at_ 1; have y2 := hy.at_ 2; have y3 := hy.at_ 3
  have HY := Lib.hid hy
  have hl := Lib.hid hl
  clear hy
  clear hx
  go_enter Tryd.func96, Tryd.ntmps96
  go_wp2_with (first | (go_at_call 97; (with_reducible refine cT.mono ?_); rintro e1 w1 ⟨A, c, rfl, hc, hr, hd, hg, _⟩; obtain ⟨ad, e2, hcell⟩ := hr.2.2 (by decide); subst e2; have g0 : w1.cell? ad = some (.int .u8 (x.getD 0 0)) := hcell 0 (by omega); have g1 : w1.cell? { ad with off := ad.off + 1, spot := none } = some (.int .u8 (x.getD 1 0)) := hcell 1 (by omega); have g2 : w1.cell? { ad with off := ad.off + 2, spot := none } = some (.int .u8 (x.getD 2 0)) := hcell 2 (by omega); have g3 : w1.cell? { ad with off := ad.off + 3, spot := none } = some (.int .u8 (x.getD 3 0)) := hcell 3 (by omega); generalize x.getD 0 0 = z0 at *; generalize x.getD 1 0 = z1 at *; generalize x.getD 2 0 = z2 at *; generalize x.getD 3 0 = z3 at *; replace hd := Lib.hid hd; replace hg := Lib.hid hg; clear hr hcell))
  refine wp_loop_rounds 5 ?_
  iterate 5 (rw [rounds_succ]; go_wp2)
  refine bodyPost_ret (by simp [results, Tryd.results96, go_sem, ↓IntWalk.iteOmega, *]; rfl) rfl ⟨?_, hd.out, hg.out⟩
  rw [or0 z0 y0, shlOr _ _ (by omega) (by omega) y1, shlOr _ _ (by omega) (by omega) y2, shlOr _ _ (by omega) (by omega) y3, hN.out]
  congr 2; omega
def SigP (w : World) (p : Nat) (b : List Int) (e : Int) (en : Ending) (w' : World) : Prop := en = .returned (.int .i64 (signN (numU (takeV 4 b)))) ∧ Rd w' p (takeR 4 b) (takeE 4 b e) ∧ w.grownBy w' (some p)
theorem rd_signed (p : Nat) (b : List Int) (e : Int) (w : World) (hb : Byt b) (h : Rd w p b e) : Calls Tryd.prog 95 #[(.pointer (some ⟨p, 0, none⟩))] w (SigP w p b e) := by
  have cT := rd_unsigned p b e w hb h
  have hbd := numU_bd (takeV_byt hb 4)
  unfold UnsP at cT
  have HS := Lib.hid (show SigP w p b e = fun en w' => en = .returned (.int .i64 (signN (numU (takeV 4 b)))) ∧ Rd w' p (takeR 4 b) (takeE 4 b e) ∧ w.grownBy w' (some p) from rfl)
  obtain ⟨z, hz⟩ : ∃ z, numU (takeV 4 b) = z := ⟨_, rfl⟩
  rw [hz] at cT hbd
  have HZ := Lib.hid hz
  clear hz
  obtain ⟨b1, b2⟩ := hbd
  by_cases hc : 2147483647 < z
  · have hs := Lib.hid (show signN z = z - 4294967296 from by unfold signN; rw [if_pos hc])
    go_enter Tryd.func95, Tryd.ntmps95
    go_wp2_with (first | (go_at_call 96; (with_reducible refine cT.mono ?_); rintro e1 w1 ⟨rfl, hd, hg⟩; replace hd := Lib.hid hd; replace hg := Lib.hid hg))
    go_ret
    exact ⟨by rw [HZ.out, hs.out]; rfl, hd.out, hg.out⟩
  · have hs := Lib.hid (show signN z = z from by unfold signN; rw [if_neg hc])
    go_enter Tryd.func95, Tryd.ntmps95
    go_wp2_with (first | (go_at_call 96; (with_reducible refine cT.mono ?_); rintro e1 w1 ⟨rfl, hd, hg⟩; replace hd := Lib.hid hd; replace hg := Lib.hid hg))
    go_ret
    exact ⟨by rw [HZ.out, hs.out]; rfl, hd.out, hg.out⟩
end Go.Proofs.YtinnaiofgbjicaaDoor
