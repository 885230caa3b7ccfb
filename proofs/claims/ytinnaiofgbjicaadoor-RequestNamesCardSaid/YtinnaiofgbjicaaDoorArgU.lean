/- One argument of the program's reader, walked. -/
import Derived.Test.YtinnaiofgbjicaaDoorArgS
import Derived.Test.YtinnaiofgbjicaaDoorArgM
namespace Go.Proofs.YtinnaiofgbjicaaDoor
open Go.RowKit Go.Proofs.YtinnaiofgbjicaaDoorW.PrintWords
set_option linter.unusedSimpArgs false
set_option linter.unusedVariables false
set_option maxRecDepth 1000000
theorem g_alloc {w W : World} {p : Nat} (h : w.grownBy W (some p)) (o : Obj) : w.grownBy (W.alloc o) (some p) := h.trans (World.grownBy_alloc _ _ _)
theorem g_set {w W : World} {p b i : Nat} (h : w.grownBy W (some p)) (hb : w.heap.size ≤ b) (v : Value) : w.grownBy (W.setCell ⟨b, i, none⟩ v) (some p) :=
  h.andThen (row' := some b) grown_set (fun j e => by injection e with e; omega)
theorem g_below {w W w1 : World} {p : Nat} (h : w.grownBy W (some p)) (k : Below W.heap.size W w1) : w.grownBy w1 (some p) := h.trans (grown_of_below k _)
def OneR (w : World) (p : Nat) (o : Option (V8 × List Int)) (v : Value) : Prop := match o with
  | some (x, r) => AnyR w x v ∧ Rd w p r 0
  | none => Rd w p [] 3
def FreshV (B : Nat) (y : Value) : Prop := ∀ A n c, y = .slice A n c → ∀ ad, A = some ad → B ≤ ad.block
theorem AnyR.grown {w w1 : World} {x : V8} {t : TypeId} {y : Value} {B : Nat} {row : Option Nat} (h : AnyR w x (.iface t y)) (hf : FreshV B y) (hg : w.grownBy w1 row) (hr : ∀ k, row = some k → k < B) : AnyR w1 x (.iface t y) := by
  cases h with
  | int h => exact .int h
  | str h => exact .str h
  | rect h => exact .rect h
  | byt h A m hm hr1 =>
    refine .byt h A m hm ⟨hr1.1, hr1.2.1, fun hn => ?_⟩
    obtain ⟨ad, e, hc⟩ := hr1.2.2 hn
    refine ⟨ad, e, fun j hj => hg.cell (hc j hj) (fun e1 => ?_)⟩
    have := hf A _ _ rfl ad e
    have h2 := hr _ e1.symm
    rw [add_blk] at h2; omega
  | oth h => exact .oth h
theorem AnyR.any_world {w w1 : World} {x : V8} {v : Value} (h : AnyR w x v) (hk : ¬ x.kind = 3) : AnyR w1 x v := by
  cases h with
  | int h => exact .int h
  | str h => exact .str h
  | rect h => exact .rect h
  | byt h A m hm hr1 => exact absurd h hk
  | oth h => exact .oth h
def OneQ (w : World) (p : Nat) (o : Option (V8 × List Int)) (en : Ending) (w' : World) : Prop := ∃ t y, en = .returned (.iface t y) ∧ OneR w' p o (.iface t y) ∧ w.grownBy w' (some p) ∧ FreshV w.heap.size y
theorem OneQ.yes {w w' : World} {p : Nat} {o : Option (V8 × List Int)} {x : V8} {r : List Int} {t : TypeId} {y : Value} (h : o = some (x, r)) (ha : AnyR w' x (.iface t y)) (hd : Rd w' p r 0) (hg : w.grownBy w' (some p)) (hf : FreshV w.heap.size y := by intro A n c e; cases e) : OneQ w p o (.returned (.iface t y)) w' := by
  subst h; exact ⟨t, y, rfl, ⟨ha, hd⟩, hg, hf⟩
theorem OneQ.no {w w' : World} {p : Nat} {o : Option (V8 × List Int)} {t : TypeId} {y : Value} (h : o = none) (hd : Rd w' p [] 3) (hg : w.grownBy w' (some p)) (hf : FreshV w.heap.size y := by intro A n c e; cases e) : OneQ w p o (.returned (.iface t y)) w' := by
  subst h; exact ⟨t, y, rfl, hd, hg, hf⟩
theorem take_yes {n : Nat} {b : List Int} (h : n ≤ b.length) (e : Int) : takeV n b = b.take n ∧ takeR n b = b.drop n ∧ takeE n b e = e := by unfold takeV takeR takeE; rw [if_pos h, if_pos h, if_pos h]; exact ⟨rfl, rfl, rfl⟩
theorem take_no {n : Nat} {b : List Int} (h : ¬ n ≤ b.length) (e : Int) : takeV n b = List.replicate n 0 ∧ takeR n b = [] ∧ takeE n b e = 3 := by unfold takeV takeR takeE; rw [if_neg h, if_neg h, if_neg h]; exact ⟨rfl, rfl, rfl⟩
theorem one_i (p : Nat) (b : List Int) (w : World) (hb : Byt b) (h : Rd w p b 0) : Calls Tryd.prog 66 #[(.pointer (some ⟨p, 0, none⟩)), .int .i32 105] w (OneQ w p (oneP 105 b)) := by
  have cT := rd_signed p b 0 w hb h
  unfold SigP at cT
  by_cases hl : 4 ≤ b.length
  · have ht := take_yes hl 0
    have HO := Lib.hid (show oneP 105 b = some ({ v0 with n := signN (numU b) }, b.drop 4) from by unfold oneP; rw [if_pos rfl, if_neg (by omega)])
    rw [ht.1, ht.2.1, ht.2.2, numU_take _ _ (Nat.le_refl _)] at cT
    go_enter Tryd.func66, Tryd.ntmps66
    go_wp2_with (first | (go_at_call 95; (with_reducible refine cT.mono ?_); rintro e1 w1 ⟨rfl, hd, hg⟩; replace hd := Lib.hid hd; replace hg := Lib.hid hg))
    go_ret
    exact OneQ.yes HO.out (AnyR.int rfl) hd.out hg.out
  · have ht := take_no hl 0
    have HO := Lib.hid (show oneP 105 b = none from by unfold oneP; rw [if_pos rfl, if_pos (by omega)])
    rw [ht.2.1, ht.2.2] at cT
    go_enter Tryd.func66, Tryd.ntmps66
    go_wp2_with (first | (go_at_call 95; (with_reducible refine cT.mono ?_); rintro e1 w1 ⟨rfl, hd, hg⟩; replace hd := Lib.hid hd; replace hg := Lib.hid hg))
    go_ret
    exact OneQ.no HO.out hd.out hg.out
theorem one_u (p : Nat) (b : List Int) (w : World) (hb : Byt b) (h : Rd w p b 0) : Calls Tryd.prog 66 #[(.pointer (some ⟨p, 0, none⟩)), .int .i32 117] w (OneQ w p (oneP 117 b)) := by
  have cT := rd_unsigned p b 0 w hb h
  unfold UnsP at cT
  by_cases hl : 4 ≤ b.length
  · have ht := take_yes hl 0
    have HO := Lib.hid (show oneP 117 b = some ({ v0 with n := numU b }, b.drop 4) from by unfold oneP; rw [if_neg (by decide), if_pos rfl, if_neg (by omega)])
    rw [ht.1, ht.2.1, ht.2.2, numU_take _ _ (Nat.le_refl _)] at cT
    go_enter Tryd.func66, Tryd.ntmps66
    go_wp2_with (first | (go_at_call 96; (with_reducible refine cT.mono ?_); rintro e1 w1 ⟨rfl, hd, hg⟩; replace hd := Lib.hid hd; replace hg := Lib.hid hg))
    go_ret
    exact OneQ.yes HO.out (AnyR.int rfl) hd.out hg.out
  · have ht := take_no hl 0
    have HO := Lib.hid (show oneP 117 b = none from by unfold oneP; rw [if_neg (by decide), if_pos rfl, if_pos (by omega)])
    rw [ht.2.1, ht.2.2] at cT
    go_enter Tryd.func66, Tryd.ntmps66
    go_wp2_with (first | (go_at_call 96; (with_reducible refine cT.mono ?_); rintro e1 w1 ⟨rfl, hd, hg⟩; replace hd := Lib.hid hd; replace hg := Lib.hid hg))
    go_ret
    exact OneQ.no HO.out hd.out hg.out
theorem one_b (p : Nat) (b : List Int) (w : World) (hn : b.length ≤ 1000000) (h : Rd w p b 0) : Calls Tryd.prog 66 #[(.pointer (some ⟨p, 0, none⟩)), .int .i32 98] w (OneQ w p (oneP 98 b)) := by
  have cT := rd_take p b.length b 0 w hn h
  unfold TakeP at cT
  have ht := take_yes (Nat.le_refl b.length) 0
  rw [ht.1, ht.2.1, ht.2.2, List.take_length, List.drop_length] at cT
  have HO := Lib.hid (show oneP 98 b = some ({ v0 with kind := 3, b := b }, []) from by unfold oneP; rw [if_neg (by decide), if_neg (by decide), if_neg (by decide), if_neg (by decide)])
  obtain ⟨A, c, h0, hc, hr, hz, hne⟩ := h
  have g0 : w.cell? ⟨p, 0, none⟩ = some (.slice A b.length c) := blk_cell h0 0
  have g1 : w.cell? ⟨p, 1, none⟩ = some (.int .i64 0) := blk_cell h0 1
  have HX := Lib.hid (And.intro h0 (And.intro hr (And.intro hz hne)))
  clear h0 hr hz hne ht
  go_enter Tryd.func66, Tryd.ntmps66
  go_wp2_with (first | (go_at_call 97; (with_reducible refine cT.mono ?_); rintro e1 w1 ⟨A1, c1, rfl, hc1, hr1, hd, hg, hfr⟩; replace hfr := Lib.hid hfr; replace hd := Lib.hid hd; replace hg := Lib.hid hg; replace hr1 := Lib.hid hr1))
  go_ret
  exact OneQ.yes HO.out (AnyR.byt rfl A1 c1 hc1 hr1.out) hd.out hg.out (by intro A n c e; injection e with e1; subst e1; exact hfr.out)
theorem one_s (p : Nat) (b : List Int) (w : World) (hb : Byt b) (h : Rd w p b 0) : Calls Tryd.prog 66 #[(.pointer (some ⟨p, 0, none⟩)), .int .i32 115] w (OneQ w p (oneP 115 b)) := by
  have cT : Calls Tryd.prog 97 #[(.pointer (some ⟨p, 0, none⟩)), .int .i64 1] w (TakeP w p 1 b 0) := rd_take p 1 b 0 w (by omega) h
  by_cases hl : 1 ≤ b.length
  · have ht := take_yes hl 0
    unfold TakeP at cT
    rw [ht.1, ht.2.1, ht.2.2] at cT
    have y0 := hb.at_ 0
    obtain ⟨z, hz⟩ : ∃ z : Nat, b.getD 0 0 = z := ⟨(b.getD 0 0).toNat, by omega⟩
    have hzt : (b.take 1).getD 0 0 = z := by rw [← hz, List.getD_eq_getElem?_getD, List.getElem?_take, if_pos (by omega), List.getD_eq_getElem?_getD]
    have HZ := Lib.hid hz
    have HZT := Lib.hid hzt
    clear hz hzt
    have hby : Byt (b.drop 1) := hb.drop 1
    have hbl : (b.drop 1).length + 1 = b.length := by simp; omega
    have HO := Lib.hid (show oneP 115 b = if (b.drop 1).length < z then none else some ({ v0 with kind := 1, s := strOfNums ((b.drop 1).take z) }, (b.drop 1).drop z) from by
      unfold oneP; rw [if_neg (by decide), if_neg (by decide), if_pos rfl, HZ.out, List.drop_drop]; simp only [List.length_drop, Int.toNat_natCast]
      by_cases hq : b.length < 1 + z
      · rw [if_pos hq, if_pos (by omega)]
      · rw [if_neg hq, if_neg (by omega)])
    obtain ⟨b1, hb1⟩ : ∃ b1, b.drop 1 = b1 := ⟨_, rfl⟩
    rw [hb1] at cT HO hby hbl
    have cU := fun w1 (hd : Rd w1 p b1 0) => rd_take p z b1 0 w1 (by have := HZ.out; omega) hd
    unfold TakeP at cU
    have hy0 : 0 ≤ (z : Int) ∧ (z : Int) ≤ 255 := by have := HZ.out; omega
    clear y0 ht hb1
    by_cases hl2 : z ≤ b1.length
    · have ht2 := take_yes hl2 0
      rw [ht2.1, ht2.2.1, ht2.2.2] at cU
      have HP := Lib.hid (HO.out.trans (if_neg (by omega)))
      clear ht2 hbl
      go_enter Tryd.func66, Tryd.ntmps66
      go_wp2_with (first | (go_at_call 97; (with_reducible refine cT.mono ?_); rintro e1 w1 ⟨A1, c1, rfl, hc1, hr1, hd, hg, _⟩; obtain ⟨ad, e2, hcell⟩ := hr1.2.2 (by decide); subst e2; have g0 := hcell 0 (by omega); rw [HZT.out] at g0; have g0 : w1.cell? ad = some (.int .u8 (z : Int)) := g0; replace hd := Lib.hid hd; replace hg := Lib.hid hg; clear hr1 hcell cT) | (go_at_call 97; (with_reducible refine (cU _ hd.out).mono ?_); rintro e1 w2 ⟨A2, c2, rfl, hc2, hr2, hd2, hg2, _⟩; have hs2 := str_reads (c := c2) hr2; replace hd2 := Lib.hid hd2; replace hg2 := Lib.hid hg2; clear hr2))
      go_ret
      exact OneQ.yes HP.out (AnyR.str rfl) hd2.out (hg.out.trans hg2.out)
    · have ht2 := take_no hl2 0
      rw [ht2.1, ht2.2.1, ht2.2.2] at cU
      have HP := Lib.hid (HO.out.trans (if_pos (by omega)))
      clear ht2 hbl
      go_enter Tryd.func66, Tryd.ntmps66
      go_wp2_with (first | (go_at_call 97; (with_reducible refine cT.mono ?_); rintro e1 w1 ⟨A1, c1, rfl, hc1, hr1, hd, hg, _⟩; obtain ⟨ad, e2, hcell⟩ := hr1.2.2 (by decide); subst e2; have g0 := hcell 0 (by omega); rw [HZT.out] at g0; have g0 : w1.cell? ad = some (.int .u8 (z : Int)) := g0; replace hd := Lib.hid hd; replace hg := Lib.hid hg; clear hr1 hcell cT) | (go_at_call 97; (with_reducible refine (cU _ hd.out).mono ?_); rintro e1 w2 ⟨A2, c2, rfl, hc2, hr2, hd2, hg2, _⟩; have hs2 := str_reads (c := c2) hr2; replace hd2 := Lib.hid hd2; replace hg2 := Lib.hid hg2; clear hr2))
      go_ret
      exact OneQ.no HP.out hd2.out (hg.out.trans hg2.out)
  · have ht := take_no hl 0
    unfold TakeP at cT
    rw [ht.1, ht.2.1, ht.2.2] at cT
    have hb0 : b = [] := List.eq_nil_of_length_eq_zero (by omega)
    have HP := Lib.hid (show oneP 115 b = none from by subst hb0; unfold oneP; rw [if_neg (by decide), if_neg (by decide), if_pos rfl]; simp)
    have cU : ∀ w1 (hd : Rd w1 p [] 3), Calls Tryd.prog 97 #[(.pointer (some ⟨p, 0, none⟩)), .int .i64 0] w1 (TakeP w1 p 0 [] 3) := fun w1 hd => rd_take p 0 [] 3 w1 (by omega) hd
    unfold TakeP at cU
    have ht2 := take_yes (n := 0) (b := []) (by simp) 3
    rw [ht2.1, ht2.2.1, ht2.2.2] at cU
    clear ht ht2
    go_enter Tryd.func66, Tryd.ntmps66
    go_wp2_with (first | (go_at_call 97; (with_reducible refine cT.mono ?_); rintro e1 w1 ⟨A1, c1, rfl, hc1, hr1, hd, hg, _⟩; obtain ⟨ad, e2, hcell⟩ := hr1.2.2 (by decide); subst e2; have g0 : w1.cell? ad = some (.int .u8 0) := hcell 0 (by omega); replace hd := Lib.hid hd; replace hg := Lib.hid hg; clear hr1 hcell cT) | (go_at_call 97; (with_reducible refine (cU _ hd.out).mono ?_); rintro e1 w2 ⟨A2, c2, rfl, hc2, hr2, hd2, hg2, _⟩; have hs2 := str_reads (c := c2) hr2; replace hd2 := Lib.hid hd2; replace hg2 := Lib.hid hg2; clear hr2))
    go_ret
    exact OneQ.no HP.out hd2.out (hg.out.trans hg2.out)
theorem reads_set {w : World} {A : Option Addr} {n g i : Nat} {xs : List Int} (h : ReadsInt w .u8 A n xs) (hne : 0 < n → ∀ ad, A = some ad → ad.block ≠ g) (v : Value) : ReadsInt (w.setCell ⟨g, i, none⟩ v) .u8 A n xs :=
  reads_grown h grown_set hne
theorem rd_far {w : World} {p g i : Nat} {b : List Int} {e : Int} (h : Rd w p b e) (hne : p < g) (v : Value) : Rd (w.setCell ⟨g, i, none⟩ v) p b e := by
  obtain ⟨A, c, h0, hc, hr, hz, hn⟩ := h
  exact ⟨A, c, blk_far h0 (by simp; omega) v, hc, reads_set hr (fun h ad e => by have := hn h ad e; omega) v, hz, hn⟩
def R4P (w : World) (p : Nat) (z0 z1 z2 z3 : Int) (b : List Int) (x : Int) (en : Ending) (w' : World) : Prop := en = .returned (.iface 26 ((.agg #[.int .i64 (z0), .int .i64 (z1), .int .i64 (z2), .int .i64 (z3)]))) ∧ Rd w' p b x ∧ w.grownBy w' (some p)
theorem one_r4 (p : Nat) (b b1 b2 b3 b4 : List Int) (e1 e2 e3 e4 z0 z1 z2 z3 : Int) (w : World)
    (c0 : Calls Tryd.prog 95 #[(.pointer (some ⟨p, 0, none⟩))] w fun en w' => en = .returned (.int .i64 z0) ∧ Rd w' p b1 e1 ∧ w.grownBy w' (some p))
    (c1 : ∀ w, Rd w p b1 e1 → Calls Tryd.prog 95 #[(.pointer (some ⟨p, 0, none⟩))] w fun en w' => en = .returned (.int .i64 z1) ∧ Rd w' p b2 e2 ∧ w.grownBy w' (some p))
    (c2 : ∀ w, Rd w p b2 e2 → Calls Tryd.prog 95 #[(.pointer (some ⟨p, 0, none⟩))] w fun en w' => en = .returned (.int .i64 z2) ∧ Rd w' p b3 e3 ∧ w.grownBy w' (some p))
    (c3 : ∀ w, Rd w p b3 e3 → Calls Tryd.prog 95 #[(.pointer (some ⟨p, 0, none⟩))] w fun en w' => en = .returned (.int .i64 z3) ∧ Rd w' p b4 e4 ∧ w.grownBy w' (some p))
    (hp : p < w.heap.size) : Calls Tryd.prog 66 #[(.pointer (some ⟨p, 0, none⟩)), .int .i32 114] w (R4P w p z0 z1 z2 z3 b4 e4) := by
  go_enter Tryd.func66, Tryd.ntmps66
  go_wp2_with (first | (go_at_call 95; (with_reducible refine (c3 _ (rd_far hd3.out (by omega) _)).mono ?_); rintro e1 w4 ⟨rfl, hd4, hg4⟩; have hz4 := hg4.size; have B4 := Lib.hid (show w4.heap[w1.heap.size]? = some (.cells #[.int .i64 (z0), .int .i64 (z1), .int .i64 (z2), .int .i64 (0)] 26 (0, 0)) from blk_grown (blk_set B3.out 2 _) hg4 (by (intro e; injection e with e; omega))); have q4 := (blk_cell (B4).out 0).trans rfl; have r4 := (blk_cell (B4).out 1).trans rfl; have s4 := (blk_cell (B4).out 2).trans rfl; have t4 := (blk_cell (B4).out 3).trans rfl; have qf4 := blk_frozen (B4).out 0; have rf4 := blk_frozen (B4).out 1; have sf4 := blk_frozen (B4).out 2; have tf4 := blk_frozen (B4).out 3; replace hd4 := Lib.hid hd4; (try simp only [World.size_alloc, World.size_setCell] at hz4); clear c3) | (go_at_call 95; (with_reducible refine (c2 _ (rd_far hd2.out (by omega) _)).mono ?_); rintro e1 w3 ⟨rfl, hd3, hg3⟩; have hz3 := hg3.size; have B3 := Lib.hid (show w3.heap[w1.heap.size]? = some (.cells #[.int .i64 (z0), .int .i64 (z1), .int .i64 (0), .int .i64 (0)] 26 (0, 0)) from blk_grown (blk_set B2.out 1 _) hg3 (by (intro e; injection e with e; omega))); have q3 := (blk_cell (B3).out 0).trans rfl; have r3 := (blk_cell (B3).out 1).trans rfl; have s3 := (blk_cell (B3).out 2).trans rfl; have t3 := (blk_cell (B3).out 3).trans rfl; have qf3 := blk_frozen (B3).out 0; have rf3 := blk_frozen (B3).out 1; have sf3 := blk_frozen (B3).out 2; have tf3 := blk_frozen (B3).out 3; replace hd3 := Lib.hid hd3; (try simp only [World.size_alloc, World.size_setCell] at hz3); clear c2) | (go_at_call 95; (with_reducible refine (c1 _ (hd1.out.below (by (repeat (first | (with_reducible exact Below.refl _ _) | ((with_reducible refine Below.alloc ?_ ?hB _); (case hB => (first | omega | (simp; done) | (simp; omega)))) | ((with_reducible refine Below.setCell ?_ ?hB _); (case hB => (first | omega | (simp; done) | (simp; omega)))) | (with_reducible refine Below.drew ?_) | ((with_reducible refine below_ext_of ?_ ?hB); (case hB => (first | omega | (simp; done) | (simp; omega)))) | ((with_reducible refine Below.trans ?_ (Below.mono (by assumption) ?hB)); (case hB => (first | omega | (simp; done) | (simp; omega))))))))).mono ?_); rintro e1 w2 ⟨rfl, hd2, hg2⟩; have hz2 := hg2.size; have B2 := Lib.hid (show w2.heap[w1.heap.size]? = some (.cells #[.int .i64 (z0), .int .i64 (0), .int .i64 (0), .int .i64 (0)] 26 (0, 0)) from blk_grown (heap_alloc_new _ _) hg2 (by (intro e; injection e with e; omega))); have q2 := (blk_cell (B2).out 0).trans rfl; have r2 := (blk_cell (B2).out 1).trans rfl; have s2 := (blk_cell (B2).out 2).trans rfl; have t2 := (blk_cell (B2).out 3).trans rfl; have qf2 := blk_frozen (B2).out 0; have rf2 := blk_frozen (B2).out 1; have sf2 := blk_frozen (B2).out 2; have tf2 := blk_frozen (B2).out 3; replace hd2 := Lib.hid hd2; (try simp only [World.size_alloc, World.size_setCell] at hz2); clear c1) | (go_at_call 95; (with_reducible refine (c0).mono ?_); rintro e1 w1 ⟨rfl, hd1, hg1⟩; have hz1 := hg1.size; replace hd1 := Lib.hid hd1; clear c0))
  go_ret
  exact ⟨rfl, rd_far hd4.out (by omega) _, by (repeat (first | (with_reducible exact World.grownBy.refl _ _) | assumption | (with_reducible refine g_alloc ?_ _) | ((with_reducible refine g_set ?_ ?hB _); (case hB => (first | omega | (simp; done) | (simp; omega)))) | (with_reducible refine World.grownBy.trans ?_ (by assumption)) | (with_reducible refine g_below ?_ (by assumption))))⟩
theorem one_r (p : Nat) (b : List Int) (w : World) (hb : Byt b) (h : Rd w p b 0) : Calls Tryd.prog 66 #[(.pointer (some ⟨p, 0, none⟩)), .int .i32 114] w (OneQ w p (oneP 114 b)) := by
  have y1 := takeR_byt hb 4
  have y2 := takeR_byt y1 4
  have y3 := takeR_byt y2 4
  have key := one_r4 p b _ _ _ _ _ _ _ _ _ _ _ _ w (rd_signed p b 0 w hb h) (fun w hd => rd_signed p _ _ w y1 hd) (fun w hd => rd_signed p _ _ w y2 hd) (fun w hd => rd_signed p _ _ w y3 hd) h.lt
  refine key.mono ?_
  rintro en w' ⟨rfl, hd, hg⟩
  by_cases hl : 16 ≤ b.length
  · have t1 := fun e => take_yes (n := 4) (b := b) (by omega) e
    have t2 := fun e => take_yes (n := 4) (b := b.drop 4) (by simp; omega) e
    have t3 := fun e => take_yes (n := 4) (b := (b.drop 4).drop 4) (by simp; omega) e
    have t4 := fun e => take_yes (n := 4) (b := ((b.drop 4).drop 4).drop 4) (by simp; omega) e
    rw [(t1 0).2.1, (t2 0).2.1, (t3 0).2.1, (t4 0).2.1, (t1 0).2.2, (t2 0).2.2, (t3 0).2.2, (t4 0).2.2] at hd
    rw [(t1 0).2.1, (t2 0).2.1, (t3 0).2.1, (t1 0).1, (t2 0).1, (t3 0).1, (t4 0).1, numU_take _ _ (Nat.le_refl _), numU_take _ _ (Nat.le_refl _), numU_take _ _ (Nat.le_refl _), numU_take _ _ (Nat.le_refl _)]
    refine OneQ.yes (x := { v0 with kind := 2, x0 := signN (numU b), y0 := signN (numU (b.drop 4)), x1 := signN (numU (b.drop 8)), y1 := signN (numU (b.drop 12)) }) (r := b.drop 16) ?_ ?_ ?_ hg
    · unfold oneP; rw [if_neg (by decide), if_neg (by decide), if_neg (by decide), if_pos rfl, if_neg (by omega)]
    · simp only [List.drop_drop]; exact AnyR.rect rfl
    · simpa [List.drop_drop] using hd
  · refine OneQ.no ?_ ?_ hg
    · unfold oneP; rw [if_neg (by decide), if_neg (by decide), if_neg (by decide), if_pos rfl, if_pos (by omega)]
    · have f : ∀ (b : List Int), b.length < 4 → takeR 4 b = [] ∧ takeE 4 b 0 = 3 := fun b h => ⟨(take_no (by omega) 0).2.1, (take_no (by omega) 0).2.2⟩
      have f0 : ∀ e, takeR 4 ([] : List Int) = [] ∧ takeE 4 ([] : List Int) e = 3 := fun e => ⟨(take_no (by simp) e).2.1, (take_no (by simp) e).2.2⟩
      have k : ∀ (b : List Int), takeR 4 b = b.drop 4 ∨ takeR 4 b = [] := fun b => by unfold takeR; split <;> simp
      by_cases h1 : 4 ≤ b.length
      · have t1 := take_yes h1 0
        rw [t1.2.1, t1.2.2] at hd
        have l1 : (b.drop 4).length + 4 = b.length := by simp; omega
        generalize b.drop 4 = b1 at *
        by_cases h2 : 4 ≤ b1.length
        · have t1 := take_yes h2 0
          rw [t1.2.1, t1.2.2] at hd
          have l2 : (b1.drop 4).length + 4 = b1.length := by simp; omega
          generalize b1.drop 4 = b2 at *
          by_cases h3 : 4 ≤ b2.length
          · have t1 := take_yes h3 0
            rw [t1.2.1, t1.2.2] at hd
            have l3 : (b2.drop 4).length + 4 = b2.length := by simp; omega
            generalize b2.drop 4 = b3 at *
            have := f b3 (by omega)
            rwa [this.1, this.2] at hd
          · have := f b2 (by omega)
            rwa [this.1, this.2, (f0 3).1, (f0 3).2] at hd
        · have := f b1 (by omega)
          rwa [this.1, this.2, (f0 3).1, (f0 3).2, (f0 3).1, (f0 3).2] at hd
      · have := f b (by omega)
        rwa [this.1, this.2, (f0 3).1, (f0 3).2, (f0 3).1, (f0 3).2, (f0 3).1, (f0 3).2] at hd
theorem rd_one (p : Nat) (c : Int) (b : List Int) (w : World) (hc : letC c) (hb : Byt b) (hn : b.length ≤ 1000000) (h : Rd w p b 0) : Calls Tryd.prog 66 #[(.pointer (some ⟨p, 0, none⟩)), .int .i32 c] w (OneQ w p (oneP c b)) := by
  rcases hc with rfl | rfl | rfl | rfl | rfl
  · exact one_i p b w hb h
  · exact one_u p b w hb h
  · exact one_s p b w hb h
  · exact one_r p b w hb h
  · exact one_b p b w hn h
end Go.Proofs.YtinnaiofgbjicaaDoor
