/- The arguments of bytes, as plain lists. -/
import Derived.Test.YtinnaiofgbjicaaDoorArgH
import Derived.Test.YtinnaiofgbjicaaDoorArgM
import Derived.Lib.OthersKept
namespace Go.Proofs.YtinnaiofgbjicaaDoor
open Go.RowKit Go.Proofs.YtinnaiofgbjicaaDoorW.PrintWords
set_option linter.unusedSimpArgs false
set_option linter.unusedVariables false
set_option maxRecDepth 1000000
/-- Bytes are of their kind. -/
def Byt (b : List Int) : Prop := ∀ n ∈ b, 0 ≤ n ∧ n ≤ 255
theorem Byt.take {b : List Int} (h : Byt b) (n : Nat) : Byt (b.take n) := fun m hm => h m (List.mem_of_mem_take hm)
theorem Byt.drop {b : List Int} (h : Byt b) (n : Nat) : Byt (b.drop n) := fun m hm => h m (List.mem_of_mem_drop hm)
theorem Byt.at_ {b : List Int} (h : Byt b) (i : Nat) : 0 ≤ b.getD i 0 ∧ b.getD i 0 ≤ 255 := by
  rw [List.getD_eq_getElem?_getD]
  by_cases hi : i < b.length
  · rw [List.getElem?_eq_getElem hi]; exact h _ (List.getElem_mem _)
  · rw [List.getElem?_eq_none (by omega)]; exact ⟨by decide, by decide⟩
theorem Byt.nil : Byt [] := fun n h => by simp at h
theorem Byt.zeros (n : Nat) : Byt (List.replicate n 0) := fun m hm => by rw [(List.mem_replicate.1 hm).2]; omega
def numU (b : List Int) : Int := b.getD 0 0 * 16777216 + b.getD 1 0 * 65536 + b.getD 2 0 * 256 + b.getD 3 0
theorem numU_bd {b : List Int} (h : Byt b) : 0 ≤ numU b ∧ numU b ≤ 4294967295 := by
  have h0 := h.at_ 0; have h1 := h.at_ 1; have h2 := h.at_ 2; have h3 := h.at_ 3
  unfold numU; omega
def signN (n : Int) : Int := if 2147483647 < n then n - 4294967296 else n
theorem signN_bd {n : Int} (h : 0 ≤ n ∧ n ≤ 4294967295) : -2147483648 ≤ signN n ∧ signN n ≤ 2147483647 := by unfold signN; split <;> omega
/-- So many bytes, or as many zeros; what is left of them; the error. -/
def takeV (n : Nat) (b : List Int) : List Int := if n ≤ b.length then b.take n else List.replicate n 0
def takeR (n : Nat) (b : List Int) : List Int := if n ≤ b.length then b.drop n else []
def takeE (n : Nat) (b : List Int) (e : Int) : Int := if n ≤ b.length then e else 3
theorem takeV_len (n : Nat) (b : List Int) : (takeV n b).length = n := by unfold takeV; split <;> simp <;> omega
theorem takeV_byt {b : List Int} (h : Byt b) (n : Nat) : Byt (takeV n b) := by unfold takeV; split; exact h.take n; exact Byt.zeros n
theorem takeR_byt {b : List Int} (h : Byt b) (n : Nat) : Byt (takeR n b) := by unfold takeR; split; exact h.drop n; exact Byt.nil
theorem takeR_le (n : Nat) (b : List Int) : (takeR n b).length ≤ b.length := by unfold takeR; split <;> simp
theorem numU_take (b : List Int) (n : Nat) (h : 4 ≤ n) : numU (b.take n) = numU b := by
  unfold numU; simp only [List.getD_eq_getElem?_getD, List.getElem?_take, show 0 < n by omega, show 1 < n by omega, show 2 < n by omega, show 3 < n by omega, if_true]
theorem numU_zeros (n : Nat) : numU (List.replicate n 0) = 0 := by
  have h : ∀ i, (List.replicate n (0 : Int)).getD i 0 = 0 := fun i => by
    rw [List.getD_eq_getElem?_getD, List.getElem?_replicate]; split <;> rfl
  unfold numU; rw [h, h, h, h]; omega
/-- One argument of bytes, and what is left of them; none: they do not suffice. -/
def oneP (c : Int) (b : List Int) : Option (V8 × List Int) :=
  if c = 105 then (if b.length < 4 then none else some ({ v0 with n := signN (numU b) }, b.drop 4))
  else if c = 117 then (if b.length < 4 then none else some ({ v0 with n := numU b }, b.drop 4))
  else if c = 115 then (if b.length < 1 + (b.getD 0 0).toNat then none else some ({ v0 with kind := 1, s := strOfNums ((b.drop 1).take (b.getD 0 0).toNat) }, b.drop (1 + (b.getD 0 0).toNat)))
  else if c = 114 then (if b.length < 16 then none else some ({ v0 with kind := 2, x0 := signN (numU b), y0 := signN (numU (b.drop 4)), x1 := signN (numU (b.drop 8)), y1 := signN (numU (b.drop 12)) }, b.drop 16))
  else some ({ v0 with kind := 3, b := b }, [])
def unpackFrom (f : ByteArray) (b : List Int) : Nat → Option (List V8 × List Int)
  | 0 => some ([], b)
  | k + 1 => match unpackFrom f b k with
    | none => none
    | some (l, r) => match oneP (byN f k) r with
      | none => none
      | some (x, r') => some (l ++ [x], r')
theorem unpackFrom_yes {f : ByteArray} {b r r' : List Int} {k : Nat} {l : List V8} {x : V8} (h : unpackFrom f b k = some (l, r)) (h1 : oneP (byN f k) r = some (x, r')) : unpackFrom f b (k + 1) = some (l ++ [x], r') := by
  simp only [unpackFrom, h, h1]
theorem unpackFrom_no {f : ByteArray} {b r : List Int} {k : Nat} {l : List V8} (h : unpackFrom f b k = some (l, r)) (h1 : oneP (byN f k) r = none) : unpackFrom f b (k + 1) = none := by
  simp only [unpackFrom, h, h1]
theorem unpackFrom_none {f : ByteArray} {b : List Int} {k : Nat} (h : unpackFrom f b k = none) : ∀ j, unpackFrom f b (k + j) = none
  | 0 => h
  | j + 1 => by
    have := unpackFrom_none h j
    show unpackFrom f b ((k + j) + 1) = none
    simp only [unpackFrom, this]
/-- What bytes are unpacked to: the error's number, the arguments. -/
def unpackP (f : ByteArray) (b : List Int) : Int × List V8 :=
  if formP f = true then
    match unpackFrom f b f.size with
    | none => (3, [])
    | some (l, r) => if r.length = 0 then (0, l) else (2, [])
  else (1, [])
theorem oneP_byt {c : Int} {b r : List Int} {x : V8} (hb : Byt b) (h : oneP c b = some (x, r)) : Byt r ∧ r.length ≤ b.length ∧ (x.kind = 3 → r = [] ∧ ¬ c = 105 ∧ ¬ c = 117 ∧ ¬ c = 115 ∧ ¬ c = 114) := by
  unfold oneP at h
  split at h
  · split at h
    · cases h
    · injection h with h; injection h with h1 h2; subst h1; subst h2
      exact ⟨hb.drop 4, by simp, fun h => by simp [v0] at h⟩
  · split at h
    · split at h
      · cases h
      · injection h with h; injection h with h1 h2; subst h1; subst h2
        exact ⟨hb.drop 4, by simp, fun h => by simp [v0] at h⟩
    · split at h
      · split at h
        · cases h
        · injection h with h; injection h with h1 h2; subst h1; subst h2
          exact ⟨hb.drop _, by simp, fun h => by simp at h⟩
      · split at h
        · split at h
          · cases h
          · injection h with h; injection h with h1 h2; subst h1; subst h2
            exact ⟨hb.drop 16, by simp, fun h => by simp at h⟩
        · injection h with h; injection h with h1 h2; subst h1; subst h2
          exact ⟨Byt.nil, by simp, fun _ => ⟨rfl, ‹_›, ‹_›, ‹_›, ‹_›⟩⟩
end Go.Proofs.YtinnaiofgbjicaaDoor
namespace Go.Proofs.YtinnaiofgbjicaaDoor
open Go.RowKit Go.Proofs.YtinnaiofgbjicaaDoorW.PrintWords
set_option linter.unusedSimpArgs false
set_option linter.unusedVariables false
set_option maxRecDepth 1000000
/-- A reader in a block: its bytes, its error. -/
def Rd (w : World) (p : Nat) (b : List Int) (e : Int) : Prop := ∃ A c, w.heap[p]? = some (.cells #[.slice A b.length c, .int .i64 e] 120 (0, 0)) ∧ b.length ≤ c ∧ ReadsInt w .u8 A b.length b ∧ (A = none → c = 0) ∧ (0 < b.length → ∀ ad, A = some ad → ad.block < p)
theorem add_blk (ad : Addr) (j : Nat) : (ad.add j).block = ad.block := by unfold Addr.add; split <;> rfl
theorem Rd.below {w w1 : World} {p : Nat} {b : List Int} {e : Int} (h : Rd w p b e) (hb : Below w.heap.size w w1) : Rd w1 p b e := by
  obtain ⟨A, c, h1, h2, h3, h4⟩ := h
  exact ⟨A, c, blk_below h1 hb, h2, h3.below hb, h4⟩
theorem Rd.mk' {w : World} {p : Nat} {b : List Int} {e : Int} {A : Option Addr} {n c : Nat} (h0 : w.heap[p]? = some (.cells #[.slice A n c, .int .i64 e] 120 (0, 0))) (hn : b.length = n) (hc : n ≤ c) (hr : ReadsInt w .u8 A n b) (hz : A = none → c = 0) (hne : 0 < n → ∀ ad, A = some ad → ad.block < p) : Rd w p b e := by
  subst hn; exact ⟨A, c, h0, hc, hr, hz, hne⟩
theorem Rd.lt {w : World} {p : Nat} {b : List Int} {e : Int} (h : Rd w p b e) : p < w.heap.size := by
  obtain ⟨A, c, h1, h2, h3, h4⟩ := h
  exact blk_lt h1
theorem grown_set {w : World} {p i : Nat} {v : Value} : w.grownBy (w.setCell ⟨p, i, none⟩ v) (some p) :=
  ⟨rfl, rfl, rfl, by simp, fun k hk hne => Below.heap_setCell w ⟨p, i, none⟩ v k (fun e => hne (by rw [e]))⟩
theorem reads_grown {w w1 : World} {A : Option Addr} {n p : Nat} {xs : List Int} (h : ReadsInt w .u8 A n xs) (hg : w.grownBy w1 (some p)) (hne : 0 < n → ∀ ad, A = some ad → ad.block ≠ p) : ReadsInt w1 .u8 A n xs :=
  ⟨h.1, h.2.1, fun hn => by
    obtain ⟨ad, e, hc⟩ := h.2.2 hn
    exact ⟨ad, e, fun j hj => hg.cell (hc j hj) (fun e1 => hne hn ad e (by injection e1 with e1; exact (add_blk _ _).symm.trans e1))⟩⟩
theorem reads_take {w : World} {A : Option Addr} {m n : Nat} {xs : List Int} (h : ReadsInt w .u8 A m xs) (hn : n ≤ m) : ReadsInt w .u8 A n (xs.take n) :=
  ⟨by rw [List.length_take, h.1]; omega, by have := h.2.1; omega, fun h0 => by
    obtain ⟨ad, e, hc⟩ := h.2.2 (by omega)
    refine ⟨ad, e, fun j hj => ?_⟩
    rw [hc j (by omega), List.getD_eq_getElem?_getD, List.getD_eq_getElem?_getD, List.getElem?_take, if_pos hj]⟩
theorem reads_drop {w : World} {ad : Addr} {m n : Nat} {xs : List Int} (h : ReadsInt w .u8 (some ad) m xs) (hn : n ≤ m) : ReadsInt w .u8 (some (ad.add n)) (m - n) (xs.drop n) :=
  ⟨by rw [List.length_drop, h.1], by have := h.2.1; omega, fun h0 => by
    obtain ⟨ad', e, hc⟩ := h.2.2 (by omega)
    injection e with e; subst e
    refine ⟨_, rfl, fun j hj => ?_⟩
    have := hc (n + j) (by omega)
    rw [List.getD_eq_getElem?_getD, List.getElem?_drop, ← List.getD_eq_getElem?_getD, ← this]
    rw [Addr.add_add]⟩
theorem own_base {w : World} {base p n c : Nat} {t : TypeId} {A : Option Addr} {xs : List Value} (h : w.ownsRow base t 1 (.slice A n c) n xs) (hp : p < base) : ∀ ad, A = some ad → ad.block ≠ p := by
  rintro ad rfl; have := (World.ownsRow.lt h ad.block rfl).1; omega
theorem own_ge {w : World} {base n c : Nat} {t : TypeId} {A : Option Addr} {xs : List Value} (h : w.ownsRow base t 1 (.slice A n c) n xs) : ∀ ad, A = some ad → base ≤ ad.block := by
  rintro ad rfl; exact (World.ownsRow.lt h ad.block rfl).1
theorem own_reads' {w : World} {base n : Nat} {v : Value} {l : List Int} (h : w.ownsRow base 5 1 v n (nums .u8 l)) : ∃ A c, v = .slice A n c ∧ ReadsInt w .u8 A n l := by
  have hn : n = l.length := by have := h.1; simp [nums] at this; omega
  subst hn; exact own_reads h
theorem own_reads_at {w : World} {base n c : Nat} {A : Option Addr} {l : List Int} (h : w.ownsRow base 5 1 (.slice A n c) n (nums .u8 l)) : ReadsInt w .u8 A n l := by
  obtain ⟨A', c', e, hr⟩ := own_reads' h
  injection e with e1; subst e1; exact hr
def TakeP (w : World) (p n : Nat) (b : List Int) (e : Int) (en : Ending) (w' : World) : Prop := ∃ A c, en = .returned (.slice A n c) ∧ n ≤ c ∧ ReadsInt w' .u8 A n (takeV n b) ∧ Rd w' p (takeR n b) (takeE n b e) ∧ w.grownBy w' (some p) ∧ ∀ ad, A = some ad → w.heap.size ≤ ad.block
theorem rd_take (p n : Nat) (b : List Int) (e : Int) (w : World) (hn : n ≤ 1000000) (h : Rd w p b e) : Calls Tryd.prog 97 #[(.pointer (some ⟨p, 0, none⟩)), .int .i64 n] w (TakeP w p n b e) := by
  obtain ⟨A, c, h0, hc, hr, hz, hne⟩ := h
  have hlt := blk_lt h0
  have g0 : w.cell? ⟨p, 0, none⟩ = some (.slice A b.length c) := blk_cell h0 0
  have g1 : w.cell? ⟨p, 1, none⟩ = some (.int .i64 e) := blk_cell h0 1
  have H0 := Lib.hid h0
  have HR := Lib.hid hr
  have HNE := Lib.hid hne
  have HZ := Lib.hid hz
  clear h0 hr hne hz
  have f0 : w.frozen? ⟨p, 0, none⟩ = false := blk_frozen H0.out 0
  have f1 : w.frozen? ⟨p, 1, none⟩ = false := blk_frozen H0.out 1
  by_cases hs : n ≤ b.length
  · have HT := Lib.hid (show takeV n b = b.take n ∧ takeR n b = b.drop n ∧ takeE n b e = e from by unfold takeV takeR takeE; rw [if_pos hs, if_pos hs, if_pos hs]; exact ⟨rfl, rfl, rfl⟩)
    have HE := Lib.hid (show (b.take n).length = n from by simp; omega)
    have HL := Lib.hid hlt
    have cC := fun w1 c (hb : Below w.heap.size w w1) => sl_Clone A n c (b.take n) w1 (by omega) (reads_take (HR.out.below hb) hs)
    cases A with
    | none =>
      have hc0 := HZ.out rfl
      have hb0 : b.length = 0 := by omega
      obtain rfl : n = 0 := by omega
      subst hc0
      rw [hb0] at g0
      go_enter Tryd.func97, Tryd.ntmps97
      go_wp2_with (first | (go_at_call 104; (with_reducible refine (cC _ _ (by (repeat (first | (with_reducible exact Below.refl _ _) | ((with_reducible refine Below.alloc ?_ ?hB _); (case hB => (first | omega | (simp; done) | (simp; omega)))) | ((with_reducible refine Below.setCell ?_ ?hB _); (case hB => (first | omega | (simp; done) | (simp; omega)))) | (with_reducible refine Below.drew ?_) | ((with_reducible refine below_ext_of ?_ ?hB); (case hB => (first | omega | (simp; done) | (simp; omega)))) | ((with_reducible refine Below.trans ?_ (Below.mono (by assumption) ?hB)); (case hB => (first | omega | (simp; done) | (simp; omega)))))))).mono ?_); rintro e1 w1 ⟨v1, rfl, ho1, hb1⟩; rw [HE.out] at ho1; obtain ⟨A1, c1, rfl, hr1⟩ := own_reads' ho1; have hz1 := hb1.size; have p0 := pw_cell_below hb1 g0; have p1 := pw_cell_below hb1 g1; have BB := Lib.hid (blk_below H0.out hb1); have k0 : w1.frozen? ⟨p, 0, none⟩ = false := blk_frozen BB.out 0))
      go_ret
      exact ⟨_, _, rfl, own_le ho1, by rw [HT.out.1]; exact reads_grown hr1 grown_set (fun _ => own_base ho1 HL.out), Rd.mk' (HT.out.2.2 ▸ blk_set BB.out 0 _) (by rw [HT.out.2.1]; simp [hb0]) (Nat.le_refl _) (by rw [HT.out.2.1, List.eq_nil_of_length_eq_zero hb0]; exact reads_nil _ _) (fun _ => rfl) (fun _ ad e => by cases e), by (refine World.grownBy.trans (grown_of_below (show Below w.heap.size w _ from ?_) _) grown_set; assumption), own_ge ho1⟩
    | some ad =>
    by_cases hcn : c = n
    · subst hcn
      have hb0 : b.length = c := by omega
      rw [hb0] at g0
      go_enter Tryd.func97, Tryd.ntmps97
      go_wp2_with (first | (go_at_call 104; (with_reducible refine (cC _ _ (by (repeat (first | (with_reducible exact Below.refl _ _) | ((with_reducible refine Below.alloc ?_ ?hB _); (case hB => (first | omega | (simp; done) | (simp; omega)))) | ((with_reducible refine Below.setCell ?_ ?hB _); (case hB => (first | omega | (simp; done) | (simp; omega)))) | (with_reducible refine Below.drew ?_) | ((with_reducible refine below_ext_of ?_ ?hB); (case hB => (first | omega | (simp; done) | (simp; omega)))) | ((with_reducible refine Below.trans ?_ (Below.mono (by assumption) ?hB)); (case hB => (first | omega | (simp; done) | (simp; omega)))))))).mono ?_); rintro e1 w1 ⟨v1, rfl, ho1, hb1⟩; rw [HE.out] at ho1; obtain ⟨A1, c1, rfl, hr1⟩ := own_reads' ho1; have hz1 := hb1.size; have p0 := pw_cell_below hb1 g0; have p1 := pw_cell_below hb1 g1; have BB := Lib.hid (blk_below H0.out hb1); have k0 : w1.frozen? ⟨p, 0, none⟩ = false := blk_frozen BB.out 0))
      go_ret
      exact ⟨_, _, rfl, own_le ho1, by rw [HT.out.1]; exact reads_grown hr1 grown_set (fun _ => own_base ho1 HL.out), Rd.mk' (HT.out.2.2 ▸ blk_set BB.out 0 _) (by rw [HT.out.2.1]; simp [hb0]) (Nat.zero_le _) (by rw [HT.out.2.1, List.drop_eq_nil_of_le (by omega)]; exact reads_nil _ _) (fun h => by cases h) (fun h => absurd h (by omega)), by (refine World.grownBy.trans (grown_of_below (show Below w.heap.size w _ from ?_) _) grown_set; assumption), own_ge ho1⟩
    · go_enter Tryd.func97, Tryd.ntmps97
      go_wp2_with (first | (go_at_call 104; (with_reducible refine (cC _ _ (by (repeat (first | (with_reducible exact Below.refl _ _) | ((with_reducible refine Below.alloc ?_ ?hB _); (case hB => (first | omega | (simp; done) | (simp; omega)))) | ((with_reducible refine Below.setCell ?_ ?hB _); (case hB => (first | omega | (simp; done) | (simp; omega)))) | (with_reducible refine Below.drew ?_) | ((with_reducible refine below_ext_of ?_ ?hB); (case hB => (first | omega | (simp; done) | (simp; omega)))) | ((with_reducible refine Below.trans ?_ (Below.mono (by assumption) ?hB)); (case hB => (first | omega | (simp; done) | (simp; omega)))))))).mono ?_); rintro e1 w1 ⟨v1, rfl, ho1, hb1⟩; rw [HE.out] at ho1; obtain ⟨A1, c1, rfl, hr1⟩ := own_reads' ho1; have hz1 := hb1.size; have p0 := pw_cell_below hb1 g0; have p1 := pw_cell_below hb1 g1; have BB := Lib.hid (blk_below H0.out hb1); have k0 : w1.frozen? ⟨p, 0, none⟩ = false := blk_frozen BB.out 0))
      go_ret
      exact ⟨_, _, rfl, own_le ho1, by rw [HT.out.1]; exact reads_grown hr1 grown_set (fun _ => own_base ho1 HL.out), Rd.mk' (HT.out.2.2 ▸ blk_set BB.out 0 _) (by rw [HT.out.2.1]; simp) (by omega) (by rw [HT.out.2.1]; exact reads_grown (reads_drop (HR.out.below hb1) hs) grown_set (fun h a e => by injection e with e; rw [← e, add_blk]; exact Nat.ne_of_lt (HNE.out (by omega) _ rfl))) (fun h => by cases h) (fun h a e => by injection e with e; rw [← e, add_blk]; exact HNE.out (by omega) _ rfl), by (refine World.grownBy.trans (grown_of_below (show Below w.heap.size w _ from ?_) _) grown_set; assumption), own_ge ho1⟩
  · have HT := Lib.hid (show takeV n b = List.replicate n 0 ∧ takeR n b = [] ∧ takeE n b e = 3 from by unfold takeV takeR takeE; rw [if_neg hs, if_neg hs, if_neg hs]; exact ⟨rfl, rfl, rfl⟩)
    have mk := print_make (P := Tryd.prog) 22 5 .u8 1 Tryd.underlying22 info_u8 (by decide) n (by omega)
    go_enter Tryd.func97, Tryd.ntmps97
    go_wp2
    go_ret
    have ho := own_made ((w.setCell ⟨p, 0, none⟩ (.slice none 0 0)).setCell ⟨p, 1, none⟩ (.int .i64 3)) 0 5 .u8 n (Nat.zero_le _) (by omega)
    simp only [World.size_setCell] at ho
    refine ⟨some ⟨w.heap.size, 0, none⟩, n, rfl, Nat.le_refl _, by rw [HT.out.1]; exact (own_reads_at ho), ?_, (grown_set.trans grown_set).trans (World.grownBy_alloc _ _ _), fun ad e => by injection e with e; subst e; exact Nat.le_refl _⟩
    rw [HT.out.2.1, HT.out.2.2]
    exact Rd.mk' (A := none) (n := 0) (c := 0) (blk_alloc (blk_set (blk_set H0.out 0 _) 1 _) _) rfl (Nat.le_refl _) (reads_nil _ _) (fun _ => rfl) (fun _ ad e => by cases e)
theorem orN (x y : Int) (h₀ : 0 ≤ x) (hx : x % 256 = 0) (h₁ : x < 9223372036854775808) (hy₀ : 0 ≤ y) (hy : y < 256) : bits .or .i64 x y = x + y :=
  bits_join .i64 63 (by decide) (fun n h0 h1 => by rw [IntKind.wrap_i64]; omega) 8 x y h₀ (by omega) (by omega) hy₀ (by omega) (by omega)
theorem or0 (c : Int) (h : 0 ≤ c ∧ c ≤ 255) : bits .or .i64 0 c = c := by rw [orN 0 c (by omega) (by omega) (by omega) h.1 (by omega)]; omega
theorem shlOr (n c : Int) (h0 : 0 ≤ n) (h1 : n < 36028797018963968) (h : 0 ≤ c ∧ c ≤ 255) : bits .or .i64 (wrap64 (n * 256)) c = n * 256 + c := by
  have e : wrap64 (n * 256) = n * 256 := by unfold wrap64; omega
  rw [e, orN _ c (by omega) (by omega) (by omega) h.1 (by omega)]
def UnsP (w : World) (p : Nat) (b : List Int) (e : Int) (en : Ending) (w' : World) : Prop := en = .returned (.int .i64 (numU (takeV 4 b))) ∧ Rd w' p (takeR 4 b) (takeE 4 b e) ∧ w.grownBy w' (some p)
theorem rd_unsigned (p : Nat) (b : List Int) (e : Int) (w : World) (hb : Byt b) (h : Rd w p b e) : Calls Tryd.prog 96 #[(.pointer (some ⟨p, 0, none⟩))] w (UnsP w p b e) := by
  have cT : Calls Tryd.prog 97 #[(.pointer (some ⟨p, 0, none⟩)), .int .i64 4] w (TakeP w p 4 b e) := rd_take p 4 b e w (by omega) h
  have hl := takeV_len 4 b
  have hy := takeV_byt hb 4
  obtain ⟨x, hx⟩ : ∃ x, takeV 4 b = x := ⟨_, rfl⟩
  have hN := Lib.hid (show numU (takeV 4 b) = x.getD 0 0 * 16777216 + x.getD 1 0 * 65536 + x.getD 2 0 * 256 + x.getD 3 0 from by rw [hx]; rfl)
  unfold TakeP at cT
  rw [hx] at cT hl hy
  have y0 := hy.at_ 0; have y1 := hy.at_ 1; have y2 := hy.at_ 2; have y3 := hy.at_ 3
  have HY := Lib.hid hy
  have hl := Lib.hid hl
  clear hy
  clear hx
  go_enter Tryd.func96, Tryd.ntmps96
  go_wp2_with (first | (go_at_call 97; (with_reducible refine cT.mono ?_); rintro e1 w1 ⟨A, c, rfl, hc, hr, hd, hg, _⟩; obtain ⟨ad, e2, hcell⟩ := hr.2.2 (by decide); subst e2; have g0 : w1.cell? ad = some (.int .u8 (x.getD 0 0)) := hcell 0 (by omega); have g1 : w1.cell? { ad with off := ad.off + 1, spot := none } = some (.int .u8 (x.getD 1 0)) := hcell 1 (by omega); have g2 : w1.cell? { ad with off := ad.off + 2, spot := none } = some (.int .u8 (x.getD 2 0)) := hcell 2 (by omega); have g3 : w1.cell? { ad with off := ad.off + 3, spot := none } = some (.int .u8 (x.getD 3 0)) := hcell 3 (by omega); generalize x.getD 0 0 = z0 at *; generalize x.getD 1 0 = z1 at *; generalize x.getD 2 0 = z2 at *; generalize x.getD 3 0 = z3 at *; replace hd := Lib.hid hd; replace hg := Lib.hid hg; clear hr hcell))
  refine wp_loop_rounds 5 ?_
  iterate 5 (rw [rounds_succ]; go_wp2)
  refine bodyPost_ret (by simp [results, Tryd.results96, go_sem, ↓IntWalk.iteOmega, *]; rfl) rfl ⟨?_, hd.out, hg.out⟩
  rw [or0 z0 y0, shlOr _ _ (by omega) (by omega) y1, shlOr _ _ (by omega) (by omega) y2, shlOr _ _ (by omega) (by omega) y3, hN.out]
  congr 2; omega
def SigP (w : World) (p : Nat) (b : List Int) (e : Int) (en : Ending) (w' : World) : Prop := en = .returned (.int .i64 (signN (numU (takeV 4 b)))) ∧ Rd w' p (takeR 4 b) (takeE 4 b e) ∧ w.grownBy w' (some p)
theorem rd_signed (p : Nat) (b : List Int) (e : Int) (w : World) (hb : Byt b) (h : Rd w p b e) : Calls Tryd.prog 95 #[(.pointer (some ⟨p, 0, none⟩))] w (SigP w p b e) := by
  have cT := rd_unsigned p b e w hb h
  have hbd := numU_bd (takeV_byt hb 4)
  unfold UnsP at cT
  have HS := Lib.hid (show SigP w p b e = fun en w' => en = .returned (.int .i64 (signN (numU (takeV 4 b)))) ∧ Rd w' p (takeR 4 b) (takeE 4 b e) ∧ w.grownBy w' (some p) from rfl)
  obtain ⟨z, hz⟩ : ∃ z, numU (takeV 4 b) = z := ⟨_, rfl⟩
  rw [hz] at cT hbd
  have HZ := Lib.hid hz
  clear hz
  obtain ⟨b1, b2⟩ := hbd
  by_cases hc : 2147483647 < z
  · have hs := Lib.hid (show signN z = z - 4294967296 from by unfold signN; rw [if_pos hc])
    go_enter Tryd.func95, Tryd.ntmps95
    go_wp2_with (first | (go_at_call 96; (with_reducible refine cT.mono ?_); rintro e1 w1 ⟨rfl, hd, hg⟩; replace hd := Lib.hid hd; replace hg := Lib.hid hg))
    go_ret
    exact ⟨by rw [HZ.out, hs.out]; rfl, hd.out, hg.out⟩
  · have hs := Lib.hid (show signN z = z from by unfold signN; rw [if_neg hc])
    go_enter Tryd.func95, Tryd.ntmps95
    go_wp2_with (first | (go_at_call 96; (with_reducible refine cT.mono ?_); rintro e1 w1 ⟨rfl, hd, hg⟩; replace hd := Lib.hid hd; replace hg := Lib.hid hg))
    go_ret
    exact ⟨by rw [HZ.out, hs.out]; rfl, hd.out, hg.out⟩
end Go.Proofs.YtinnaiofgbjicaaDoor
namespace Go.Proofs.YtinnaiofgbjicaaDoor
open Go.RowKit Go.Proofs.YtinnaiofgbjicaaDoorW.PrintWords
set_option linter.unusedSimpArgs false
set_option linter.unusedVariables false
set_option maxRecDepth 1000000
theorem g_alloc {w W : World} {p : Nat} (h : w.grownBy W (some p)) (o : Obj) : w.grownBy (W.alloc o) (some p) := h.trans (World.grownBy_alloc _ _ _)
theorem g_set {w W : World} {p b i : Nat} (h : w.grownBy W (some p)) (hb : w.heap.size ≤ b) (v : Value) : w.grownBy (W.setCell ⟨b, i, none⟩ v) (some p) :=
  h.andThen (row' := some b) grown_set (fun j e => by injection e with e; omega)
theorem g_below {w W w1 : World} {p : Nat} (h : w.grownBy W (some p)) (k : Below W.heap.size W w1) : w.grownBy w1 (some p) := h.trans (grown_of_below k _)
def OneR (w : World) (p : Nat) (o : Option (V8 × List Int)) (v : Value) : Prop := match o with
  | some (x, r) => AnyR w x v ∧ Rd w p r 0
  | none => Rd w p [] 3
def FreshV (B : Nat) (y : Value) : Prop := ∀ A n c, y = .slice A n c → ∀ ad, A = some ad → B ≤ ad.block
theorem AnyR.grown {w w1 : World} {x : V8} {t : TypeId} {y : Value} {B : Nat} {row : Option Nat} (h : AnyR w x (.iface t y)) (hf : FreshV B y) (hg : w.grownBy w1 row) (hr : ∀ k, row = some k → k < B) : AnyR w1 x (.iface t y) := by
  cases h with
  | int h => exact .int h
  | str h => exact .str h
  | rect h => exact .rect h
  | byt h A m hm hr1 =>
    refine .byt h A m hm ⟨hr1.1, hr1.2.1, fun hn => ?_⟩
    obtain ⟨ad, e, hc⟩ := hr1.2.2 hn
    refine ⟨ad, e, fun j hj => hg.cell (hc j hj) (fun e1 => ?_)⟩
    have := hf A _ _ rfl ad e
    have h2 := hr _ e1.symm
    rw [add_blk] at h2; omega
  | oth h => exact .oth h
theorem AnyR.any_world {w w1 : World} {x : V8} {v : Value} (h : AnyR w x v) (hk : ¬ x.kind = 3) : AnyR w1 x v := by
  cases h with
  | int h => exact .int h
  | str h => exact .str h
  | rect h => exact .rect h
  | byt h A m hm hr1 => exact absurd h hk
  | oth h => exact .oth h
def OneQ (w : World) (p : Nat) (o : Option (V8 × List Int)) (en : Ending) (w' : World) : Prop := ∃ t y, en = .returned (.iface t y) ∧ OneR w' p o (.iface t y) ∧ w.grownBy w' (some p) ∧ FreshV w.heap.size y
theorem OneQ.yes {w w' : World} {p : Nat} {o : Option (V8 × List Int)} {x : V8} {r : List Int} {t : TypeId} {y : Value} (h : o = some (x, r)) (ha : AnyR w' x (.iface t y)) (hd : Rd w' p r 0) (hg : w.grownBy w' (some p)) (hf : FreshV w.heap.size y := by intro A n c e; cases e) : OneQ w p o (.returned (.iface t y)) w' := by
  subst h; exact ⟨t, y, rfl, ⟨ha, hd⟩, hg, hf⟩
theorem OneQ.no {w w' : World} {p : Nat} {o : Option (V8 × List Int)} {t : TypeId} {y : Value} (h : o = none) (hd : Rd w' p [] 3) (hg : w.grownBy w' (some p)) (hf : FreshV w.heap.size y := by intro A n c e; cases e) : OneQ w p o (.returned (.iface t y)) w' := by
  subst h; exact ⟨t, y, rfl, hd, hg, hf⟩
theorem take_yes {n : Nat} {b : List Int} (h : n ≤ b.length) (e : Int) : takeV n b = b.take n ∧ takeR n b = b.drop n ∧ takeE n b e = e := by unfold takeV takeR takeE; rw [if_pos h, if_pos h, if_pos h]; exact ⟨rfl, rfl, rfl⟩
theorem take_no {n : Nat} {b : List Int} (h : ¬ n ≤ b.length) (e : Int) : takeV n b = List.replicate n 0 ∧ takeR n b = [] ∧ takeE n b e = 3 := by unfold takeV takeR takeE; rw [if_neg h, if_neg h, if_neg h]; exact ⟨rfl, rfl, rfl⟩
theorem one_i (p : Nat) (b : List Int) (w : World) (hb : Byt b) (h : Rd w p b 0) : Calls Tryd.prog 66 #[(.pointer (some ⟨p, 0, none⟩)), .int .i32 105] w (OneQ w p (oneP 105 b)) := by
  have cT := rd_signed p b 0 w hb h
  unfold SigP at cT
  by_cases hl : 4 ≤ b.length
  · have ht := take_yes hl 0
    have HO := Lib.hid (show oneP 105 b = some ({ v0 with n := signN (numU b) }, b.drop 4) from by unfold oneP; rw [if_pos rfl, if_neg (by omega)])
    rw [ht.1, ht.2.1, ht.2.2, numU_take _ _ (Nat.le_refl _)] at cT
    go_enter Tryd.func66, Tryd.ntmps66
    go_wp2_with (first | (go_at_call 95; (with_reducible refine cT.mono ?_); rintro e1 w1 ⟨rfl, hd, hg⟩; replace hd := Lib.hid hd; replace hg := Lib.hid hg))
    go_ret
    exact OneQ.yes HO.out (AnyR.int rfl) hd.out hg.out
  · have ht := take_no hl 0
    have HO := Lib.hid (show oneP 105 b = none from by unfold oneP; rw [if_pos rfl, if_pos (by omega)])
    rw [ht.2.1, ht.2.2] at cT
    go_enter Tryd.func66, Tryd.ntmps66
    go_wp2_with (first | (go_at_call 95; (with_reducible refine cT.mono ?_); rintro e1 w1 ⟨rfl, hd, hg⟩; replace hd := Lib.hid hd; replace hg := Lib.hid hg))
    go_ret
    exact OneQ.no HO.out hd.out hg.out
theorem one_u (p : Nat) (b : List Int) (w : World) (hb : Byt b) (h : Rd w p b 0) : Calls Tryd.prog 66 #[(.pointer (some ⟨p, 0, none⟩)), .int .i32 117] w (OneQ w p (oneP 117 b)) := by
  have cT := rd_unsigned p b 0 w hb h
  unfold UnsP at cT
  by_cases hl : 4 ≤ b.length
  · have ht := take_yes hl 0
    have HO := Lib.hid (show oneP 117 b = some ({ v0 with n := numU b }, b.drop 4) from by unfold oneP; rw [if_neg (by decide), if_pos rfl, if_neg (by omega)])
    rw [ht.1, ht.2.1, ht.2.2, numU_take _ _ (Nat.le_refl _)] at cT
    go_enter Tryd.func66, Tryd.ntmps66
    go_wp2_with (first | (go_at_call 96; (with_reducible refine cT.mono ?_); rintro e1 w1 ⟨rfl, hd, hg⟩; replace hd := Lib.hid hd; replace hg := Lib.hid hg))
    go_ret
    exact OneQ.yes HO.out (AnyR.int rfl) hd.out hg.out
  · have ht := take_no hl 0
    have HO := Lib.hid (show oneP 117 b = none from by unfold oneP; rw [if_neg (by decide), if_pos rfl, if_pos (by omega)])
    rw [ht.2.1, ht.2.2] at cT
    go_enter Tryd.func66, Tryd.ntmps66
    go_wp2_with (first | (go_at_call 96; (with_reducible refine cT.mono ?_); rintro e1 w1 ⟨rfl, hd, hg⟩; replace hd := Lib.hid hd; replace hg := Lib.hid hg))
    go_ret
    exact OneQ.no HO.out hd.out hg.out
theorem one_b (p : Nat) (b : List Int) (w : World) (hn : b.length ≤ 1000000) (h : Rd w p b 0) : Calls Tryd.prog 66 #[(.pointer (some ⟨p, 0, none⟩)), .int .i32 98] w (OneQ w p (oneP 98 b)) := by
  have cT := rd_take p b.length b 0 w hn h
  unfold TakeP at cT
  have ht := take_yes (Nat.le_refl b.length) 0
  rw [ht.1, ht.2.1, ht.2.2, List.take_length, List.drop_length] at cT
  have HO := Lib.hid (show oneP 98 b = some ({ v0 with kind := 3, b := b }, []) from by unfold oneP; rw [if_neg (by decide), if_neg (by decide), if_neg (by decide), if_neg (by decide)])
  obtain ⟨A, c, h0, hc, hr, hz, hne⟩ := h
  have g0 : w.cell? ⟨p, 0, none⟩ = some (.slice A b.length c) := blk_cell h0 0
  have g1 : w.cell? ⟨p, 1, none⟩ = some (.int .i64 0) := blk_cell h0 1
  have HX := Lib.hid (And.intro h0 (And.intro hr (And.intro hz hne)))
  clear h0 hr hz hne ht
  go_enter Tryd.func66, Tryd.ntmps66
  go_wp2_with (first | (go_at_call 97; (with_reducible refine cT.mono ?_); rintro e1 w1 ⟨A1, c1, rfl, hc1, hr1, hd, hg, hfr⟩; replace hfr := Lib.hid hfr; replace hd := Lib.hid hd; replace hg := Lib.hid hg; replace hr1 := Lib.hid hr1))
  go_ret
  exact OneQ.yes HO.out (AnyR.byt rfl A1 c1 hc1 hr1.out) hd.out hg.out (by intro A n c e; injection e with e1; subst e1; exact hfr.out)
theorem one_s (p : Nat) (b : List Int) (w : World) (hb : Byt b) (h : Rd w p b 0) : Calls Tryd.prog 66 #[(.pointer (some ⟨p, 0, none⟩)), .int .i32 115] w (OneQ w p (oneP 115 b)) := by
  have cT : Calls Tryd.prog 97 #[(.pointer (some ⟨p, 0, none⟩)), .int .i64 1] w (TakeP w p 1 b 0) := rd_take p 1 b 0 w (by omega) h
  by_cases hl : 1 ≤ b.length
  · have ht := take_yes hl 0
    unfold TakeP at cT
    rw [ht.1, ht.2.1, ht.2.2] at cT
    have y0 := hb.at_ 0
    obtain ⟨z, hz⟩ : ∃ z : Nat, b.getD 0 0 = z := ⟨(b.getD 0 0).toNat, by omega⟩
    have hzt : (b.take 1).getD 0 0 = z := by rw [← hz, List.getD_eq_getElem?_getD, List.getElem?_take, if_pos (by omega), List.getD_eq_getElem?_getD]
    have HZ := Lib.hid hz
    have HZT := Lib.hid hzt
    clear hz hzt
    have hby : Byt (b.drop 1) := hb.drop 1
    have hbl : (b.drop 1).length + 1 = b.length := by simp; omega
    have HO := Lib.hid (show oneP 115 b = if (b.drop 1).length < z then none else some ({ v0 with kind := 1, s := strOfNums ((b.drop 1).take z) }, (b.drop 1).drop z) from by
      unfold oneP; rw [if_neg (by decide), if_neg (by decide), if_pos rfl, HZ.out, List.drop_drop]; simp only [List.length_drop, Int.toNat_natCast]
      by_cases hq : b.length < 1 + z
      · rw [if_pos hq, if_pos (by omega)]
      · rw [if_neg hq, if_neg (by omega)])
    obtain ⟨b1, hb1⟩ : ∃ b1, b.drop 1 = b1 := ⟨_, rfl⟩
    rw [hb1] at cT HO hby hbl
    have cU := fun w1 (hd : Rd w1 p b1 0) => rd_take p z b1 0 w1 (by have := HZ.out; omega) hd
    unfold TakeP at cU
    have hy0 : 0 ≤ (z : Int) ∧ (z : Int) ≤ 255 := by have := HZ.out; omega
    clear y0 ht hb1
    by_cases hl2 : z ≤ b1.length
    · have ht2 := take_yes hl2 0
      rw [ht2.1, ht2.2.1, ht2.2.2] at cU
      have HP := Lib.hid (HO.out.trans (if_neg (by omega)))
      clear ht2 hbl
      go_enter Tryd.func66, Tryd.ntmps66
      go_wp2_with (first | (go_at_call 97; (with_reducible refine cT.mono ?_); rintro e1 w1 ⟨A1, c1, rfl, hc1, hr1, hd, hg, _⟩; obtain ⟨ad, e2, hcell⟩ := hr1.2.2 (by decide); subst e2; have g0 := hcell 0 (by omega); rw [HZT.out] at g0; have g0 : w1.cell? ad = some (.int .u8 (z : Int)) := g0; replace hd := Lib.hid hd; replace hg := Lib.hid hg; clear hr1 hcell cT) | (go_at_call 97; (with_reducible refine (cU _ hd.out).mono ?_); rintro e1 w2 ⟨A2, c2, rfl, hc2, hr2, hd2, hg2, _⟩; have hs2 := str_reads (c := c2) hr2; replace hd2 := Lib.hid hd2; replace hg2 := Lib.hid hg2; clear hr2))
      go_ret
      exact OneQ.yes HP.out (AnyR.str rfl) hd2.out (hg.out.trans hg2.out)
    · have ht2 := take_no hl2 0
      rw [ht2.1, ht2.2.1, ht2.2.2] at cU
      have HP := Lib.hid (HO.out.trans (if_pos (by omega)))
      clear ht2 hbl
      go_enter Tryd.func66, Tryd.ntmps66
      go_wp2_with (first | (go_at_call 97; (with_reducible refine cT.mono ?_); rintro e1 w1 ⟨A1, c1, rfl, hc1, hr1, hd, hg, _⟩; obtain ⟨ad, e2, hcell⟩ := hr1.2.2 (by decide); subst e2; have g0 := hcell 0 (by omega); rw [HZT.out] at g0; have g0 : w1.cell? ad = some (.int .u8 (z : Int)) := g0; replace hd := Lib.hid hd; replace hg := Lib.hid hg; clear hr1 hcell cT) | (go_at_call 97; (with_reducible refine (cU _ hd.out).mono ?_); rintro e1 w2 ⟨A2, c2, rfl, hc2, hr2, hd2, hg2, _⟩; have hs2 := str_reads (c := c2) hr2; replace hd2 := Lib.hid hd2; replace hg2 := Lib.hid hg2; clear hr2))
      go_ret
      exact OneQ.no HP.out hd2.out (hg.out.trans hg2.out)
  · have ht := take_no hl 0
    unfold TakeP at cT
    rw [ht.1, ht.2.1, ht.2.2] at cT
    have hb0 : b = [] := List.eq_nil_of_length_eq_zero (by omega)
    have HP := Lib.hid (show oneP 115 b = none from by subst hb0; unfold oneP; rw [if_neg (by decide), if_neg (by decide), if_pos rfl]; simp)
    have cU : ∀ w1 (hd : Rd w1 p [] 3), Calls Tryd.prog 97 #[(.pointer (some ⟨p, 0, none⟩)), .int .i64 0] w1 (TakeP w1 p 0 [] 3) := fun w1 hd => rd_take p 0 [] 3 w1 (by omega) hd
    unfold TakeP at cU
    have ht2 := take_yes (n := 0) (b := []) (by simp) 3
    rw [ht2.1, ht2.2.1, ht2.2.2] at cU
    clear ht ht2
    go_enter Tryd.func66, Tryd.ntmps66
    go_wp2_with (first | (go_at_call 97; (with_reducible refine cT.mono ?_); rintro e1 w1 ⟨A1, c1, rfl, hc1, hr1, hd, hg, _⟩; obtain ⟨ad, e2, hcell⟩ := hr1.2.2 (by decide); subst e2; have g0 : w1.cell? ad = some (.int .u8 0) := hcell 0 (by omega); replace hd := Lib.hid hd; replace hg := Lib.hid hg; clear hr1 hcell cT) | (go_at_call 97; (with_reducible refine (cU _ hd.out).mono ?_); rintro e1 w2 ⟨A2, c2, rfl, hc2, hr2, hd2, hg2, _⟩; have hs2 := str_reads (c := c2) hr2; replace hd2 := Lib.hid hd2; replace hg2 := Lib.hid hg2; clear hr2))
    go_ret
    exact OneQ.no HP.out hd2.out (hg.out.trans hg2.out)
theorem reads_set {w : World} {A : Option Addr} {n g i : Nat} {xs : List Int} (h : ReadsInt w .u8 A n xs) (hne : 0 < n → ∀ ad, A = some ad → ad.block ≠ g) (v : Value) : ReadsInt (w.setCell ⟨g, i, none⟩ v) .u8 A n xs :=
  reads_grown h grown_set hne
theorem rd_far {w : World} {p g i : Nat} {b : List Int} {e : Int} (h : Rd w p b e) (hne : p < g) (v : Value) : Rd (w.setCell ⟨g, i, none⟩ v) p b e := by
  obtain ⟨A, c, h0, hc, hr, hz, hn⟩ := h
  exact ⟨A, c, blk_far h0 (by simp; omega) v, hc, reads_set hr (fun h ad e => by have := hn h ad e; omega) v, hz, hn⟩
def R4P (w : World) (p : Nat) (z0 z1 z2 z3 : Int) (b : List Int) (x : Int) (en : Ending) (w' : World) : Prop := en = .returned (.iface 26 ((.agg #[.int .i64 (z0), .int .i64 (z1), .int .i64 (z2), .int .i64 (z3)]))) ∧ Rd w' p b x ∧ w.grownBy w' (some p)
theorem one_r4 (p : Nat) (b b1 b2 b3 b4 : List Int) (e1 e2 e3 e4 z0 z1 z2 z3 : Int) (w : World)
    (c0 : Calls Tryd.prog 95 #[(.pointer (some ⟨p, 0, none⟩))] w fun en w' => en = .returned (.int .i64 z0) ∧ Rd w' p b1 e1 ∧ w.grownBy w' (some p))
    (c1 : ∀ w, Rd w p b1 e1 → Calls Tryd.prog 95 #[(.pointer (some ⟨p, 0, none⟩))] w fun en w' => en = .returned (.int .i64 z1) ∧ Rd w' p b2 e2 ∧ w.grownBy w' (some p))
    (c2 : ∀ w, Rd w p b2 e2 → Calls Tryd.prog 95 #[(.pointer (some ⟨p, 0, none⟩))] w fun en w' => en = .returned (.int .i64 z2) ∧ Rd w' p b3 e3 ∧ w.grownBy w' (some p))
    (c3 : ∀ w, Rd w p b3 e3 → Calls Tryd.prog 95 #[(.pointer (some ⟨p, 0, none⟩))] w fun en w' => en = .returned (.int .i64 z3) ∧ Rd w' p b4 e4 ∧ w.grownBy w' (some p))
    (hp : p < w.heap.size) : Calls Tryd.prog 66 #[(.pointer (some ⟨p, 0, none⟩)), .int .i32 114] w (R4P w p z0 z1 z2 z3 b4 e4) := by
  go_enter Tryd.func66, Tryd.ntmps66
  go_wp2_with (first | (go_at_call 95; (with_reducible refine (c3 _ (rd_far hd3.out (by omega) _)).mono ?_); rintro e1 w4 ⟨rfl, hd4, hg4⟩; have hz4 := hg4.size; have B4 := Lib.hid (show w4.heap[w1.heap.size]? = some (.cells #[.int .i64 (z0), .int .i64 (z1), .int .i64 (z2), .int .i64 (0)] 26 (0, 0)) from blk_grown (blk_set B3.out 2 _) hg4 (by (intro e; injection e with e; omega))); have q4 := (blk_cell (B4).out 0).trans rfl; have r4 := (blk_cell (B4).out 1).trans rfl; have s4 := (blk_cell (B4).out 2).trans rfl; have t4 := (blk_cell (B4).out 3).trans rfl; have qf4 := blk_frozen (B4).out 0; have rf4 := blk_frozen (B4).out 1; have sf4 := blk_frozen (B4).out 2; have tf4 := blk_frozen (B4).out 3; replace hd4 := Lib.hid hd4; (try simp only [World.size_alloc, World.size_setCell] at hz4); clear c3) | (go_at_call 95; (with_reducible refine (c2 _ (rd_far hd2.out (by omega) _)).mono ?_); rintro e1 w3 ⟨rfl, hd3, hg3⟩; have hz3 := hg3.size; have B3 := Lib.hid (show w3.heap[w1.heap.size]? = some (.cells #[.int .i64 (z0), .int .i64 (z1), .int .i64 (0), .int .i64 (0)] 26 (0, 0)) from blk_grown (blk_set B2.out 1 _) hg3 (by (intro e; injection e with e; omega))); have q3 := (blk_cell (B3).out 0).trans rfl; have r3 := (blk_cell (B3).out 1).trans rfl; have s3 := (blk_cell (B3).out 2).trans rfl; have t3 := (blk_cell (B3).out 3).trans rfl; have qf3 := blk_frozen (B3).out 0; have rf3 := blk_frozen (B3).out 1; have sf3 := blk_frozen (B3).out 2; have tf3 := blk_frozen (B3).out 3; replace hd3 := Lib.hid hd3; (try simp only [World.size_alloc, World.size_setCell] at hz3); clear c2) | (go_at_call 95; (with_reducible refine (c1 _ (hd1.out.below (by (repeat (first | (with_reducible exact Below.refl _ _) | ((with_reducible refine Below.alloc ?_ ?hB _); (case hB => (first | omega | (simp; done) | (simp; omega)))) | ((with_reducible refine Below.setCell ?_ ?hB _); (case hB => (first | omega | (simp; done) | (simp; omega)))) | (with_reducible refine Below.drew ?_) | ((with_reducible refine below_ext_of ?_ ?hB); (case hB => (first | omega | (simp; done) | (simp; omega)))) | ((with_reducible refine Below.trans ?_ (Below.mono (by assumption) ?hB)); (case hB => (first | omega | (simp; done) | (simp; omega))))))))).mono ?_); rintro e1 w2 ⟨rfl, hd2, hg2⟩; have hz2 := hg2.size; have B2 := Lib.hid (show w2.heap[w1.heap.size]? = some (.cells #[.int .i64 (z0), .int .i64 (0), .int .i64 (0), .int .i64 (0)] 26 (0, 0)) from blk_grown (heap_alloc_new _ _) hg2 (by (intro e; injection e with e; omega))); have q2 := (blk_cell (B2).out 0).trans rfl; have r2 := (blk_cell (B2).out 1).trans rfl; have s2 := (blk_cell (B2).out 2).trans rfl; have t2 := (blk_cell (B2).out 3).trans rfl; have qf2 := blk_frozen (B2).out 0; have rf2 := blk_frozen (B2).out 1; have sf2 := blk_frozen (B2).out 2; have tf2 := blk_frozen (B2).out 3; replace hd2 := Lib.hid hd2; (try simp only [World.size_alloc, World.size_setCell] at hz2); clear c1) | (go_at_call 95; (with_reducible refine (c0).mono ?_); rintro e1 w1 ⟨rfl, hd1, hg1⟩; have hz1 := hg1.size; replace hd1 := Lib.hid hd1; clear c0))
  go_ret
  exact ⟨rfl, rd_far hd4.out (by omega) _, by (repeat (first | (with_reducible exact World.grownBy.refl _ _) | assumption | (with_reducible refine g_alloc ?_ _) | ((with_reducible refine g_set ?_ ?hB _); (case hB => (first | omega | (simp; done) | (simp; omega)))) | (with_reducible refine World.grownBy.trans ?_ (by assumption)) | (with_reducible refine g_below ?_ (by assumption))))⟩
theorem one_r (p : Nat) (b : List Int) (w : World) (hb : Byt b) (h : Rd w p b 0) : Calls Tryd.prog 66 #[(.pointer (some ⟨p, 0, none⟩)), .int .i32 114] w (OneQ w p (oneP 114 b)) := by
  have y1 := takeR_byt hb 4
  have y2 := takeR_byt y1 4
  have y3 := takeR_byt y2 4
  have key := one_r4 p b _ _ _ _ _ _ _ _ _ _ _ _ w (rd_signed p b 0 w hb h) (fun w hd => rd_signed p _ _ w y1 hd) (fun w hd => rd_signed p _ _ w y2 hd) (fun w hd => rd_signed p _ _ w y3 hd) h.lt
  refine key.mono ?_
  rintro en w' ⟨rfl, hd, hg⟩
  by_cases hl : 16 ≤ b.length
  · have t1 := fun e => take_yes (n := 4) (b := b) (by omega) e
    have t2 := fun e => take_yes (n := 4) (b := b.drop 4) (by simp; omega) e
    have t3 := fun e => take_yes (n := 4) (b := (b.drop 4).drop 4) (by simp; omega) e
    have t4 := fun e => take_yes (n := 4) (b := ((b.drop 4).drop 4).drop 4) (by simp; omega) e
    rw [(t1 0).2.1, (t2 0).2.1, (t3 0).2.1, (t4 0).2.1, (t1 0).2.2, (t2 0).2.2, (t3 0).2.2, (t4 0).2.2] at hd
    rw [(t1 0).2.1, (t2 0).2.1, (t3 0).2.1, (t1 0).1, (t2 0).1, (t3 0).1, (t4 0).1, numU_take _ _ (Nat.le_refl _), numU_take _ _ (Nat.le_refl _), numU_take _ _ (Nat.le_refl _), numU_take _ _ (Nat.le_refl _)]
    refine OneQ.yes (x := { v0 with kind := 2, x0 := signN (numU b), y0 := signN (numU (b.drop 4)), x1 := signN (numU (b.drop 8)), y1 := signN (numU (b.drop 12)) }) (r := b.drop 16) ?_ ?_ ?_ hg
    · unfold oneP; rw [if_neg (by decide), if_neg (by decide), if_neg (by decide), if_pos rfl, if_neg (by omega)]
    · simp only [List.drop_drop]; exact AnyR.rect rfl
    · simpa [List.drop_drop] using hd
  · refine OneQ.no ?_ ?_ hg
    · unfold oneP; rw [if_neg (by decide), if_neg (by decide), if_neg (by decide), if_pos rfl, if_pos (by omega)]
    · have f : ∀ (b : List Int), b.length < 4 → takeR 4 b = [] ∧ takeE 4 b 0 = 3 := fun b h => ⟨(take_no (by omega) 0).2.1, (take_no (by omega) 0).2.2⟩
      have f0 : ∀ e, takeR 4 ([] : List Int) = [] ∧ takeE 4 ([] : List Int) e = 3 := fun e => ⟨(take_no (by simp) e).2.1, (take_no (by simp) e).2.2⟩
      have k : ∀ (b : List Int), takeR 4 b = b.drop 4 ∨ takeR 4 b = [] := fun b => by unfold takeR; split <;> simp
      by_cases h1 : 4 ≤ b.length
      · have t1 := take_yes h1 0
        rw [t1.2.1, t1.2.2] at hd
        have l1 : (b.drop 4).length + 4 = b.length := by simp; omega
        generalize b.drop 4 = b1 at *
        by_cases h2 : 4 ≤ b1.length
        · have t1 := take_yes h2 0
          rw [t1.2.1, t1.2.2] at hd
          have l2 : (b1.drop 4).length + 4 = b1.length := by simp; omega
          generalize b1.drop 4 = b2 at *
          by_cases h3 : 4 ≤ b2.length
          · have t1 := take_yes h3 0
            rw [t1.2.1, t1.2.2] at hd
            have l3 : (b2.drop 4).length + 4 = b2.length := by simp; omega
            generalize b2.drop 4 = b3 at *
            have := f b3 (by omega)
            rwa [this.1, this.2] at hd
          · have := f b2 (by omega)
            rwa [this.1, this.2, (f0 3).1, (f0 3).2] at hd
        · have := f b1 (by omega)
          rwa [this.1, this.2, (f0 3).1, (f0 3).2, (f0 3).1, (f0 3).2] at hd
      · have := f b (by omega)
        rwa [this.1, this.2, (f0 3).1, (f0 3).2, (f0 3).1, (f0 3).2, (f0 3).1, (f0 3).2] at hd
theorem rd_one (p : Nat) (c : Int) (b : List Int) (w : World) (hc : letC c) (hb : Byt b) (hn : b.length ≤ 1000000) (h : Rd w p b 0) : Calls Tryd.prog 66 #[(.pointer (some ⟨p, 0, none⟩)), .int .i32 c] w (OneQ w p (oneP c b)) := by
  rcases hc with rfl | rfl | rfl | rfl | rfl
  · exact one_i p b w hb h
  · exact one_u p b w hb h
  · exact one_s p b w hb h
  · exact one_r p b w hb h
  · exact one_b p b w hn h
end Go.Proofs.YtinnaiofgbjicaaDoor
namespace Go.Proofs.YtinnaiofgbjicaaDoor
open Go.RowKit Go.Proofs.YtinnaiofgbjicaaDoorW.PrintWords
open Go.Lib (run_next_ascii_at run_next_end_at iterAt_heap iterAt_other iterAt_size)
set_option linter.unusedSimpArgs false
set_option linter.unusedVariables false
set_option maxRecDepth 1000000
theorem grown_iter (w : World) (q : Nat) (s : ByteArray) (pos : Nat) : w.grownBy (w.iterAt q s pos) (some q) :=
  ⟨rfl, rfl, rfl, by rw [iterAt_size]; exact Nat.le_refl _, fun i hi hne => iterAt_other w q i s pos (fun e => hne (by rw [e]))⟩
theorem Rd.grown {w w1 : World} {p : Nat} {b : List Int} {e : Int} {row : Option Nat} (h : Rd w p b e) (hg : w.grownBy w1 row) (hr : ∀ k, row = some k → p < k) : Rd w1 p b e := by
  obtain ⟨A, c, h0, hc, h1, hz, hn⟩ := h
  refine ⟨A, c, blk_grown h0 hg (fun e => by have := hr _ e.symm; omega), hc, ⟨h1.1, h1.2.1, fun hq => ?_⟩, hz, hn⟩
  obtain ⟨ad, e, hcell⟩ := h1.2.2 hq
  refine ⟨ad, e, fun j hj => hg.cell (hcell j hj) (fun e1 => ?_)⟩
  have := hr _ e1.symm
  have h2 := hn hq ad e
  rw [add_blk] at this; omega
/-- A row of values of any type, none of bytes but at the end. -/
def OwnA (w : World) (base : Nat) (v : Value) (l : List V8) : Prop := ∃ cells : List Value, w.ownsRow base 20 1 v cells.length cells ∧ cells.length = l.length ∧ ∀ i, i < l.length → AnyR w (at8 l i) (cells.getD i .nilIface)
def NoB (l : List V8) : Prop := ∀ i, i < l.length → ¬ (at8 l i).kind = 3
theorem at8_snoc (l : List V8) (x : V8) (i : Nat) : at8 (l ++ [x]) i = if i < l.length then at8 l i else if i = l.length then x else v0 := by
  unfold at8
  rw [List.getD_eq_getElem?_getD, List.getD_eq_getElem?_getD]
  by_cases h : i < l.length
  · rw [if_pos h, List.getElem?_append_left h]
  · rw [if_neg h]
    by_cases h2 : i = l.length
    · subst h2; rw [if_pos rfl]; simp
    · rw [if_neg h2, List.getElem?_eq_none (by simp; omega)]; rfl
theorem NoB.snoc {l : List V8} {x : V8} (h : NoB l) (hx : ¬ x.kind = 3) : NoB (l ++ [x]) := fun i hi => by
  rw [at8_snoc]; split
  · exact h i ‹_›
  · split
    · exact hx
    · simp [v0]
theorem NoB.nil : NoB [] := fun i hi => by simp at hi
theorem OwnA.nil (w : World) (base : Nat) : OwnA w base (.slice none 0 0) [] := ⟨[], own_nil _ _ _ _, rfl, fun i hi => by simp at hi⟩
theorem OwnA.grown {w w1 : World} {base : Nat} {v : Value} {l : List V8} {row : Option Nat} (h : OwnA w base v l) (hb : NoB l) (hg : w.grownBy w1 row) (hr : ∀ k, row = some k → k < base) : OwnA w1 base v l := by
  obtain ⟨cs, h1, h2, h3⟩ := h
  refine ⟨cs, h1.kept hg ?_, h2, fun i hi => (h3 i hi).any_world (hb i hi)⟩
  by_cases e : v.ownBlock = none
  · exact .inl e
  · obtain ⟨g, hgv⟩ := Option.ne_none_iff_exists'.1 e
    exact .inr fun e2 => by
      have a := World.ownsRow.lt h1 g hgv
      have c := hr g (e2.symm.trans hgv)
      omega
theorem OwnA.below {w w1 : World} {base : Nat} {v : Value} {l : List V8} (h : OwnA w base v l) (hb : Below w.heap.size w w1) : OwnA w1 base v l := by
  obtain ⟨cs, h1, h2, h3⟩ := h
  exact ⟨cs, pw_own_below h1 hb, h2, fun i hi => (h3 i hi).below hb⟩
theorem OwnA.row {w : World} {base : Nat} {v : Value} {l : List V8} (h : OwnA w base v l) : ∃ A c, v = .slice A l.length c ∧ l.length ≤ c ∧ AnyRow w A l := by
  obtain ⟨cs, h1, h2, h3⟩ := h
  exact OwnAny.row ⟨cs, h1, h2, h3⟩ (Below.refl _ _)
def UnpP (w : World) (r : Int × List V8) (e : Ending) (w' : World) : Prop := ∃ A c, e = .returned (.tuple #[.slice A r.2.length c, .int .i64 r.1]) ∧ r.2.length ≤ c ∧ AnyRow w' A r.2 ∧ Below w.heap.size w w'
theorem UnpP.err {w w' : World} {r : Int × List V8} {i : Int} (h : r = (i, [])) (hb : Below w.heap.size w w') : UnpP w r (.returned (.tuple #[.slice none 0 0, .int .i64 i])) w' := by
  subst h; exact ⟨none, 0, rfl, Nat.le_refl _, fun i hi => by simp at hi, hb⟩
theorem UnpP.ok {w w' : World} {r : Int × List V8} {l : List V8} {v : Value} {base : Nat} (h : r = (0, l)) (ho : OwnA w' base v l) (hb : Below w.heap.size w w') : UnpP w r (.returned (.tuple #[v, .int .i64 0])) w' := by
  subst h
  obtain ⟨A, c, rfl, hc, hr⟩ := ho.row
  exact ⟨A, c, rfl, hc, hr, hb⟩
theorem lt_of_cell {w : World} {a : Addr} {v : Value} (h : w.cell? a = some v) : a.block < w.heap.size := by
  unfold World.cell? at h
  by_cases hb : a.block < w.heap.size
  · exact hb
  · rw [Array.getElem?_eq_none (by omega)] at h; simp at h
theorem iter_pos {w : World} {q : Nat} {s : ByteArray} {k : Nat} (h : w.heap[q]? = some (.stringIter s k)) : w.iterPos q = k := by simp [World.iterPos, h]
theorem Rd.belowB {w w1 : World} {p B : Nat} {b : List Int} {e : Int} (h : Rd w p b e) (hb : Below B w w1) (hp : p < B) : Rd w1 p b e := by
  obtain ⟨A, c, h0, hc, h1, hz, hn⟩ := h
  refine ⟨A, c, (hb.block p hp).trans h0, hc, ⟨h1.1, h1.2.1, fun hq => ?_⟩, hz, hn⟩
  obtain ⟨ad, e, hcell⟩ := h1.2.2 hq
  refine ⟨ad, e, fun j hj => ?_⟩
  have h2 := hn hq ad e
  rw [hb.cell (p := ad.add j) (by rw [add_blk]; omega)]; exact hcell j hj
theorem blk_belowB {w w1 : World} {q B : Nat} {o : Obj} (h : w.heap[q]? = some o) (hb : Below B w w1) (hq : q < B) : w1.heap[q]? = some o := (hb.block q hq).trans h
theorem below_two {w w1 w2 : World} {p n B : Nat} (hg : w.grownBy w1 (some p)) (hb : Below B w1 w2) (hnp : n ≤ p) (hnB : n ≤ B) (hn : n ≤ w.heap.size) : Below n w w2 :=
  (Below.grown (Below.refl n w) hg hn (fun k e => by injection e with e; omega)).trans (hb.mono hnB)
theorem OwnA.snoc {w w4 : World} {base : Nat} {v : Value} {cs : List Value} {l : List V8} {x : V8} {u : Value} (hcl : cs.length = l.length) (hca : ∀ i, i < l.length → AnyR w (at8 l i) (cs.getD i .nilIface)) (hnb : NoB l) (ho : w4.ownsRow base 20 1 v (cs ++ [u]).length (cs ++ [u])) (hu : AnyR w4 x u) : OwnA w4 base v (l ++ [x]) := by
  refine ⟨cs ++ [u], ho, by simp [hcl], fun i hi => ?_⟩
  rw [at8_snoc]
  by_cases h : i < l.length
  · rw [if_pos h, List.getD_eq_getElem?_getD, List.getElem?_append_left (by omega), ← List.getD_eq_getElem?_getD]
    exact (hca i h).any_world (hnb i h)
  · have : i = l.length := by simp at hi; omega
    subst this
    rw [if_neg h, if_pos rfl, List.getD_eq_getElem?_getD, List.getElem?_append_right (by omega), hcl]
    simpa using hu
theorem formP_at {f : ByteArray} (h : formP f = true) {k : Nat} (hk : k < f.size) : letC (byN f k) ∧ (byN f k = 98 → f.size ≤ k + 1) := by
  unfold formP at h; exact (of_decide_eq_true h).1 k hk
theorem formP_le {f : ByteArray} (h : formP f = true) : f.size ≤ 8 := by
  unfold formP at h; exact (of_decide_eq_true h).2
set_option maxHeartbeats 1000000 in
theorem args_Unpack (f : ByteArray) (A : Option Addr) (b : List Int) (c : Nat) (w : World) (hz : f.size ≤ 140737488351232) (hb : Byt b) (hn : b.length ≤ 1000000) (hc : b.length ≤ c) (hA : A = none → c = 0) (hr : ReadsInt w .u8 A b.length b) : Calls Tryd.prog 42 #[.string f, .slice A b.length c] w (UnpP w (unpackP f b)) := by
  have cf := fun w => args_Form f w hz
  cases hf : formP f
  · have hP := Lib.hid (show unpackP f b = (1, []) from by unfold unpackP; rw [if_neg (by simp [hf])])
    rw [hf] at cf
    go_enter Tryd.func42, Tryd.ntmps42
    go_wp2_with (first | (go_at_call 65; (with_reducible refine (cf _).mono ?_); rintro e w1 ⟨rfl, hb1⟩; obtain ⟨hc1, hf1⟩ := bcell hb1; have hz1 := hb1.size; (try simp only [World.size_alloc, World.size_setCell, World.size_drew] at hz1)))
    go_ret2
    exact UnpP.err hP.out (by (repeat (first | (with_reducible exact Below.refl _ _) | ((with_reducible refine Below.alloc ?_ ?hB _); (case hB => (first | omega | (simp; done) | (simp; omega)))) | ((with_reducible refine Below.setCell ?_ ?hB _); (case hB => (first | omega | (simp; done) | (simp; omega)))) | (with_reducible refine Below.drew ?_) | ((with_reducible refine below_ext_of ?_ ?hB); (case hB => (first | omega | (simp; done) | (simp; omega)))) | ((with_reducible refine Below.trans ?_ (Below.mono (by assumption) ?hB)); (case hB => (first | omega | (simp; done) | (simp; omega)))))))
  · have HF := Lib.hid hf
    have h8 := formP_le hf
    rw [hf] at cf
    clear hf
    go_enter Tryd.func42, Tryd.ntmps42
    go_wp2_with (first | (go_at_call 65; (with_reducible refine (cf _).mono ?_); rintro e w1 ⟨rfl, hb1⟩; obtain ⟨hc1, hf1⟩ := bcell hb1; have hz1 := hb1.size; (try simp only [World.size_alloc, World.size_setCell, World.size_drew] at hz1)))
    have hRd : Rd ((w1.alloc (.cells #[.slice A b.length c, .int .i64 0] 120)).iter f 0) w1.heap.size b 0 := by
      refine ⟨A, c, blk_below (heap_alloc_new _ _) (below_iter _ _ _), hc, (hr.below hb1).below (((Below.refl _ _).alloc (Nat.le_refl _) _).trans ((below_iter _ _ _).mono (by simp))), hA, fun h ad e => ?_⟩
      obtain ⟨ad', e', hcell⟩ := hr.2.2 h
      rw [e] at e'; injection e' with e'; subst e'
      have := lt_of_cell (hcell 0 h)
      rw [add_blk] at this; omega
    have hIt : ((w1.alloc (.cells #[.slice A b.length c, .int .i64 0] 120)).iter f 0).heap[w1.heap.size + 1]? = some (.stringIter f 0) := by
      have := heap_alloc_new (w1.alloc (.cells #[.slice A b.length c, .int .i64 0] 120)) (.stringIter f 0)
      simpa [World.iter] using this
    have hB0 : Below w.heap.size w ((w1.alloc (.cells #[.slice A b.length c, .int .i64 0] 120)).iter f 0) := (by (repeat (first | (with_reducible exact Below.refl _ _) | ((with_reducible refine Below.alloc ?_ ?hB _); (case hB => (first | omega | (simp; done) | (simp; omega)))) | ((with_reducible refine Below.setCell ?_ ?hB _); (case hB => (first | omega | (simp; done) | (simp; omega)))) | (with_reducible refine Below.drew ?_) | ((with_reducible refine below_ext_of ?_ ?hB); (case hB => (first | omega | (simp; done) | (simp; omega)))) | ((with_reducible refine Below.trans ?_ (Below.mono (by assumption) ?hB)); (case hB => (first | omega | (simp; done) | (simp; omega)))))) : Below w.heap.size w (w1.alloc (.cells #[.slice A b.length c, .int .i64 0] 120))).trans ((below_iter _ _ _).mono (by simp; omega))
    have hS0 := size_iter (w1.alloc (.cells #[.slice A b.length c, .int .i64 0] 120)) f 0
    rw [World.size_alloc] at hS0
    clear hr hA
    obtain ⟨p, hp⟩ : ∃ p, w1.heap.size = p := ⟨_, rfl⟩
    rw [hp] at hRd hIt hS0 hz1
    have hz0 : p + 2 ≤ ((w1.alloc (.cells #[.slice A b.length c, .int .i64 0] 120)).iter f 0).heap.size := by omega
    rw [hp]
    clear hS0 hp
    go_loopw [7] (fun v wr => ∃ (k : Nat) (l : List V8) (r : List Int), k ≤ f.size ∧ l.length = k ∧ unpackFrom f b k = some (l, r) ∧ Byt r ∧ r.length ≤ b.length ∧ (k < f.size → NoB l) ∧ OwnA wr (p + 2) v l ∧ Rd wr p r 0 ∧ wr.heap[p + 1]? = some (.stringIter f k) ∧ Below w.heap.size w wr ∧ p + 2 ≤ wr.heap.size) (fun _ wr => f.size - wr.iterPos (p + 1))
    case atStart => exact ⟨0, [], b, by omega, rfl, rfl, hb, by omega, fun _ => NoB.nil, OwnA.nil _ _, hRd, hIt, hB0, by omega⟩
    case round =>
      obtain ⟨k, l, r, hk, hlk, hu, hby, hrl, hnb, hown, hrd, hit, hbr, hps⟩ := hrel
      have hpos : wr.iterPos (p + 1) = k := iter_pos hit
      by_cases hlt : k < f.size
      · have hfa := formP_at HF.out hlt
        obtain ⟨hlet, h98⟩ := hfa
        have ha : (f[k]'hlt).toNat < 128 := by
          have e := byN_at f k hlt
          unfold letC at hlet; omega
        have hnx := fun ty => run_next_ascii_at (P := Tryd.prog) wr (p + 1) f k ty hit hlt ha
        have hnb := hnb hlt
        have hrd1 := hrd.grown (grown_iter wr (p + 1) f (k + 1)) (fun k e => by injection e with e; omega)
        have cO := rd_one p (byN f k) r _ hlet hby (by omega) hrd1
        have hown1 := hown.grown hnb (grown_iter wr (p + 1) f (k + 1)) (fun k e => by injection e with e; omega)
        have hs1 := iterAt_size wr (p + 1) f (k + 1)
        have hit1 := iterAt_heap wr (p + 1) f k (k + 1) hit
        have hbr1 : Below w.heap.size w (wr.iterAt (p + 1) f (k + 1)) := Go.Lib.below_iterAt hbr (by omega) _ _
        have HX := Lib.hid (And.intro hu (And.intro hlk (And.intro hown1 (And.intro hnb hit1))))
        obtain ⟨wi, hwi⟩ : ∃ wi, wr.iterAt (p + 1) f (k + 1) = wi := ⟨_, rfl⟩
        rw [hwi] at cO hnx hs1 hbr1 HX
        clear hwi
        have HB1 := Lib.hid hbr1
        have HOB := Lib.hid (show ∀ g, u7.ownBlock = some g → g < wi.heap.size from fun g hg => by
          obtain ⟨cs, h1, _⟩ := hown
          have := (World.ownsRow.lt h1 g hg).2; omega)
        have HLE := Lib.hid (And.intro hlet h98)
        clear hown hrd hit hrd1 hown1 hit1 hu hnb hbr hbr1 hlet h98
        have hop : oneP (byN f k) r = none ∨ ∃ x r', oneP (byN f k) r = some (x, r') := by
          cases h : oneP (byN f k) r with
          | none => exact .inl rfl
          | some q => exact .inr ⟨q.1, q.2, rfl⟩
        rcases hop with ho | ⟨x, r', ho⟩
        · have HU := Lib.hid (show unpackP f b = (3, []) from by
            unfold unpackP; rw [if_pos HF.out]
            have := unpackFrom_none (unpackFrom_no HX.out.1 ho) (f.size - (k + 1))
            rw [show k + 1 + (f.size - (k + 1)) = f.size by omega] at this
            rw [this])
          rw [ho, ← byN_at f k hlt] at cO
          unfold OneQ OneR at cO
          clear ho
          go_wp2_with (first | (go_at_call 66; (with_reducible refine cO.mono ?_); rintro e w3 ⟨t, y, rfl, hd3, hg3, hf3⟩; have hd3 : Rd w3 p [] 3 := hd3; have hz3 := hg3.size; have hown3 := OwnA.grown HX.out.2.2.1 HX.out.2.2.2.1 hg3 (fun k e => by injection e with e; omega); obtain ⟨cs, hcs, hcl, hca⟩ := hown3; have it3 := blk_grown HX.out.2.2.2.2 hg3 (by intro e; injection e with e; omega); replace hd3 := Lib.hid hd3; replace it3 := Lib.hid it3; replace hca := Lib.hid hca; replace hcl := Lib.hid hcl; replace hg3 := Lib.hid hg3; replace hf3 := Lib.hid hf3; have hcl8 : cs.length ≤ 8 := (by have := hcl.out; have := HX.out.2.1; omega)) | (at_builtin; go_loud ((at_builtin; refine print_append (w0 := w3) (p + 2) rfl _ _ 87 20 .nilIface 16 rfl Tryd.underlying87 info_any rfl (by decide) _ cs (.iface t y) rfl ?_ rfl ?_ (Below.refl _ _) ?_ ?_ ?_; (focus (go_simp; done)); (focus (exact hcs)); (focus ((first | omega | (simp; done) | (simp; omega)); done)); (focus ((first | omega | (simp; done) | (simp; omega)); done)); intro v4 w4 hown4 hb4 hg4 _; have hz4 := hg4.size; have hd4 := hd3.out.belowB hb4 (by omega); have it4 := blk_belowB it3.out hb4 (by omega); obtain ⟨A4, c4, h40, h4c, h4r, h4z, h4n⟩ := hd4; have q0 := (blk_cell h40 0).trans rfl; have q1 := (blk_cell h40 1).trans rfl; have HD4 := Lib.hid (Rd.mk' h40 rfl h4c h4r h4z h4n); clear h40 h4r h4z h4n; replace it4 := Lib.hid it4; have HB4 := Lib.hid (Below.trans HB1.out (below_two hg3.out hb4 (by omega) (by omega) (by omega)))))))
          (refine wp_region_ext_lit (by kernel_rfl) (by kernel_rfl) ?_; (repeat (go_big_quiet_step ((fail)))); refine wpQuiet_nil ?_; intro w5 hb_w5; obtain ⟨hc_w5, hf_w5⟩ := bcell hb_w5; have hz_w5 := hb_w5.size; (try simp only [World.size_alloc, World.size_setCell, World.size_drew] at hz_w5))
          go_wp2
          go_ret2
          exact UnpP.err HU.out (HB4.out.trans (Below.mono (show Below w4.heap.size w4 w5 from by (repeat (first | (with_reducible exact Below.refl _ _) | ((with_reducible refine Below.alloc ?_ ?hB _); (case hB => (first | omega | (simp; done) | (simp; omega)))) | ((with_reducible refine Below.setCell ?_ ?hB _); (case hB => (first | omega | (simp; done) | (simp; omega)))) | (with_reducible refine Below.drew ?_) | ((with_reducible refine below_ext_of ?_ ?hB); (case hB => (first | omega | (simp; done) | (simp; omega)))) | ((with_reducible refine Below.trans ?_ (Below.mono (by assumption) ?hB)); (case hB => (first | omega | (simp; done) | (simp; omega))))))) (by omega)))
        · have hox := oneP_byt hby ho
          have HU := Lib.hid (And.intro (unpackFrom_yes HX.out.1 ho) hox)
          rw [ho, ← byN_at f k hlt] at cO
          unfold OneQ OneR at cO
          clear ho hox hby
          go_wp2_with (first | (go_at_call 66; (with_reducible refine cO.mono ?_); rintro e w3 ⟨t, y, rfl, ⟨hx3, hd3⟩, hg3, hf3⟩; replace hx3 := Lib.hid hx3; have hd3 : Rd w3 p r' 0 := hd3; have hz3 := hg3.size; have hown3 := OwnA.grown HX.out.2.2.1 HX.out.2.2.2.1 hg3 (fun k e => by injection e with e; omega); obtain ⟨cs, hcs, hcl, hca⟩ := hown3; have it3 := blk_grown HX.out.2.2.2.2 hg3 (by intro e; injection e with e; omega); replace hd3 := Lib.hid hd3; replace it3 := Lib.hid it3; replace hca := Lib.hid hca; replace hcl := Lib.hid hcl; replace hg3 := Lib.hid hg3; replace hf3 := Lib.hid hf3; have hcl8 : cs.length ≤ 8 := (by have := hcl.out; have := HX.out.2.1; omega)) | (at_builtin; refine print_append (w0 := w3) (p + 2) rfl _ _ 87 20 .nilIface 16 rfl Tryd.underlying87 info_any rfl (by decide) _ cs (.iface t y) rfl ?_ rfl ?_ (Below.refl _ _) ?_ ?_ ?_; (focus (go_simp; done)); (focus (exact hcs)); (focus ((first | omega | (simp; done) | (simp; omega)); done)); (focus ((first | omega | (simp; done) | (simp; omega)); done)); intro v4 w4 hown4 hb4 hg4 _; have hz4 := hg4.size; have hd4 := hd3.out.belowB hb4 (by omega); have it4 := blk_belowB it3.out hb4 (by omega); obtain ⟨A4, c4, h40, h4c, h4r, h4z, h4n⟩ := hd4; have q0 := (blk_cell h40 0).trans rfl; have q1 := (blk_cell h40 1).trans rfl; have HD4 := Lib.hid (Rd.mk' h40 rfl h4c h4r h4z h4n); clear h40 h4r h4z h4n; replace it4 := Lib.hid it4; have HB4 := Lib.hid (Below.trans HB1.out (below_two hg3.out hb4 (by omega) (by omega) (by omega)))))
          go_roundw
          case rel => exact ⟨k + 1, l ++ [x], r', by omega, by have := HX.out.2.1; simp; omega, HU.out.1, HU.out.2.1, by have := HU.out.2.2.1; have := hrl; omega, fun h => HX.out.2.2.2.1.snoc (fun e => by
            obtain ⟨_, n1, n2, n3, n4⟩ := HU.out.2.2.2 e
            have h1 := HLE.out.1; have h2 := HLE.out.2
            unfold letC at h1; omega), OwnA.snoc hcl.out hca.out HX.out.2.2.2.1 hown4 (hx3.out.grown hf3.out hg4 HOB.out), HD4.out, it4.out, HB4.out, by omega⟩
          case measure => have := iter_pos it4.out; rw [this, hpos]; omega
      · obtain rfl : k = f.size := by omega
        have hnx := fun ty => run_next_end_at (P := Tryd.prog) wr (p + 1) f f.size ty hit hlt
        have hP : unpackP f b = if r.length = 0 then (0, l) else (2, []) := by unfold unpackP; rw [if_pos HF.out, hu]
        obtain ⟨A4, c4, h40, h4c, h4r, h4z, h4n⟩ := hrd
        have q0 := (blk_cell h40 0).trans rfl
        have q1 := (blk_cell h40 1).trans rfl
        have HO := Lib.hid hown
        have HBR := Lib.hid hbr
        have HP := Lib.hid hP
        clear h40 h4r h4z h4n hown hbr hP hit hpos hu hnb hlk
        by_cases h0 : r.length = 0
        · have HQ := Lib.hid (HP.out.trans (if_pos h0))
          go_wp2
          go_ret2
          exact UnpP.ok HQ.out HO.out HBR.out
        · have HQ := Lib.hid (HP.out.trans (if_neg h0))
          go_wp2
          go_ret2
          exact UnpP.err HQ.out HBR.out
end Go.Proofs.YtinnaiofgbjicaaDoor
