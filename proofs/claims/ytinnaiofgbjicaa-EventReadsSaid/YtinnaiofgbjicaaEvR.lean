/- Sameness of rows of events; the number round a ring: walked. -/
import Derived.Test.YtinnaiofgbjicaaEvA
import Derived.Test.YtinnaiofgbjicaaEvL
import Derived.Test.YtinnaiofgbjicaaEvMc
import Derived.Test.YtinnaiofgbjicaaUnpC
import Derived.Test.YtinnaiofgbjicaaEvN
import Derived.Test.YtinnaiofgbjicaaEvO
import Derived.Test.YtinnaiofgbjicaaEvI
namespace Go.Proofs.Ytinnaiofgbjicaa
open Go.RowKit Go.Proofs.YtinnaiofgbjicaaW.PrintWords
set_option linter.unusedSimpArgs false
set_option linter.unusedVariables false
set_option maxRecDepth 1000000
def eEq (a b c d p q r s : Int) : Bool := decide (a = p ∧ b = q ∧ c = r ∧ d = s)
theorem eqE (d : Nat) (w : World) (x0 x1 x2 x3 y0 y1 y2 y3 : Int) : (Op.equalIn (d + 2) 25 (.agg #[.int .i64 (x0), .int .i64 (x1), .int .i64 (x2), .int .i64 (x3)]) (.agg #[.int .i64 (y0), .int .i64 (y1), .int .i64 (y2), .int .i64 (y3)])).run Try.prog w = .ok (eEq x0 x1 x2 x3 y0 y1 y2 y3) w := by
  have e : eEq x0 x1 x2 x3 y0 y1 y2 y3 = (x0 == y0 && (x1 == y1 && (x2 == y2 && (x3 == y3 && true)))) := by
    rw [Bool.eq_iff_iff]; simp [eEq]
  rw [e]
  refine eqA_of Try.underlying25 (by kernel_rfl) ?_
  refine eqf_cons (by rfl) (by go_simp; rfl) (by go_simp; rfl) (by go_simp) ?_
  refine eqf_cons (by rfl) (by go_simp; rfl) (by go_simp; rfl) (by go_simp) ?_
  refine eqf_cons (by rfl) (by go_simp; rfl) (by go_simp; rfl) (by go_simp) ?_
  refine eqf_cons (by rfl) (by go_simp; rfl) (by go_simp; rfl) (by go_simp) ?_
  exact eqf_nil
attribute [local go_sem high] eqE
theorem eEq_iff (x y : E4) : eEq x.k x.id x.a x.b y.k y.id y.a y.b = decide (x = y) := by
  cases x; cases y; simp [eEq]
theorem same_all {l m : List E4} (h : l.length = m.length) (hs : ∀ i, i < l.length → atE l i = atE m i) : l = m := List.ext_getElem h fun i h1 h2 => by
  have := hs i h1
  rwa [atE_get h1, atE_get h2] at this
theorem ref_SameE (A1 A2 : Option Addr) (l m : List E4) (c1 c2 : Nat) (w : World) (h1 : ER w A1 l c1) (h2 : ER w A2 m c2) : Calls Try.prog 14 #[.slice A1 l.length c1, .slice A2 m.length c2] w fun e w' => e = .returned (.bool (decide (l = m))) ∧ Below w.heap.size w w' := by
  have hl1 := h1.len; have hl2 := h2.len
  have r1 := h1.row; have r2 := h2.row
  clear h1 h2
  by_cases hlen : l.length = m.length
  · have hL := Lib.hid hlen
    have hr2 : ∀ i, i < l.length → ∃ ad, A2 = some ad ∧ w.cell? (ad.add (i * 4)) = some (.int .i64 (atE m i).k) ∧ w.cell? ⟨(ad.add (i * 4)).block, (ad.add (i * 4)).off + 1, none⟩ = some (.int .i64 (atE m i).id) ∧ w.cell? ⟨(ad.add (i * 4)).block, (ad.add (i * 4)).off + 2, none⟩ = some (.int .i64 (atE m i).a) ∧ w.cell? ⟨(ad.add (i * 4)).block, (ad.add (i * 4)).off + 3, none⟩ = some (.int .i64 (atE m i).b) := fun i hi => r2 i (by rw [← hL.out]; exact hi)
    rw [← hlen]
    clear r2 hlen
    go_enter Try.func14, Try.ntmps14
    go_wp2
    go_loopw [5] (fun i wr => ∃ j : Nat, j ≤ l.length ∧ i = .int .i64 j ∧ Hid (∀ i, i < j → atE l i = atE m i) ∧ Below w.heap.size w wr) (fun i _ => l.length - (intOf i).toNat)
    case atStart => exact ⟨0, by omega, rfl, Lib.hid (fun i hi => by omega), Below.refl _ _⟩
    case round =>
      obtain ⟨j, hj, rfl, hne, hbr⟩ := hrel
      have hzr := hbr.size
      by_cases hlt : j < l.length
      · obtain ⟨ad1, rfl, f0, f1, f2, f3⟩ := r1 j hlt
        obtain ⟨ad2, rfl, g0, g1, g2, g3⟩ := hr2 j hlt
        have f0 := pw_cell_below hbr f0; have f1 := pw_cell_below hbr f1; have f2 := pw_cell_below hbr f2; have f3 := pw_cell_below hbr f3
        have g0 := pw_cell_below hbr g0; have g1 := pw_cell_below hbr g1; have g2 := pw_cell_below hbr g2; have g3 := pw_cell_below hbr g3
        have x0 := fun x => pw_cell_below (below_ext wr x) f0; have x1 := fun x => pw_cell_below (below_ext wr x) f1; have x2 := fun x => pw_cell_below (below_ext wr x) f2; have x3 := fun x => pw_cell_below (below_ext wr x) f3
        have y0 := fun x => pw_cell_below (below_ext wr x) g0; have y1 := fun x => pw_cell_below (below_ext wr x) g1; have y2 := fun x => pw_cell_below (below_ext wr x) g2; have y3 := fun x => pw_cell_below (below_ext wr x) g3
        have HBR := Lib.hid hbr
        by_cases he : atE l j = atE m j
        · have HN := Lib.hid (show ∀ i, i < j + 1 → atE l i = atE m i from fun i hi => by
            by_cases e : i = j
            · subst e; exact he
            · exact hne.out i (by omega))
          have ek := eEq_iff (atE l j) (atE m j)
          rw [decide_eq_true he] at ek
          clear he hne hr2 r1
          generalize atE l j = p at *
          generalize atE m j = q at *
          go_wp2
          (refine wp_region_ext_lit (by kernel_rfl) (by kernel_rfl) ?_; (repeat (go_big_quiet_step ((fail)))); refine wpQuiet_nil ?_; intro w2 hb_w2; obtain ⟨hc_w2, hf_w2⟩ := bcell hb_w2; have hz_w2 := hb_w2.size; (try simp only [World.size_alloc, World.size_setCell, World.size_drew] at hz_w2))
          go_wp2
          go_roundw
          case rel => exact ⟨j + 1, by omega, by go_num, HN, HBR.out.trans (Below.mono (show Below wr.heap.size wr _ from by (repeat (first | (with_reducible exact Below.refl _ _) | ((with_reducible refine Below.alloc ?_ ?hB _); (case hB => (first | omega | (simp; done) | (simp; omega)))) | ((with_reducible refine Below.setCell ?_ ?hB _); (case hB => (first | omega | (simp; done) | (simp; omega)))) | (with_reducible refine Below.drew ?_) | ((with_reducible refine below_ext_of ?_ ?hB); (case hB => (first | omega | (simp; done) | (simp; omega)))) | ((with_reducible refine Below.trans ?_ (Below.mono (by assumption) ?hB)); (case hB => (first | omega | (simp; done) | (simp; omega))))))) hzr)⟩
          case measure => simp [intOf]; omega
        · have HN := Lib.hid (show decide (l = m) = false from decide_eq_false (fun h => he (by rw [h])))
          have ek := eEq_iff (atE l j) (atE m j)
          rw [decide_eq_false he] at ek
          clear he hne hr2 r1
          generalize atE l j = p at *
          generalize atE m j = q at *
          go_wp2
          (refine wp_region_ext_lit (by kernel_rfl) (by kernel_rfl) ?_; (repeat (go_big_quiet_step ((fail)))); refine wpQuiet_nil ?_; intro w2 hb_w2; obtain ⟨hc_w2, hf_w2⟩ := bcell hb_w2; have hz_w2 := hb_w2.size; (try simp only [World.size_alloc, World.size_setCell, World.size_drew] at hz_w2))
          go_wp2
          go_ret
          refine ⟨?_, HBR.out.trans (Below.mono (show Below wr.heap.size wr _ from by (repeat (first | (with_reducible exact Below.refl _ _) | ((with_reducible refine Below.alloc ?_ ?hB _); (case hB => (first | omega | (simp; done) | (simp; omega)))) | ((with_reducible refine Below.setCell ?_ ?hB _); (case hB => (first | omega | (simp; done) | (simp; omega)))) | (with_reducible refine Below.drew ?_) | ((with_reducible refine below_ext_of ?_ ?hB); (case hB => (first | omega | (simp; done) | (simp; omega)))) | ((with_reducible refine Below.trans ?_ (Below.mono (by assumption) ?hB)); (case hB => (first | omega | (simp; done) | (simp; omega))))))) hzr)⟩
          rw [HN.out]; rfl
      · obtain rfl : j = l.length := by omega
        have HN := Lib.hid (show decide (l = m) = true from decide_eq_true (same_all hL.out hne.out))
        clear hne hr2 r1
        go_wp2
        go_ret
        refine ⟨?_, by (repeat (first | (with_reducible exact Below.refl _ _) | ((with_reducible refine Below.alloc ?_ ?hB _); (case hB => (first | omega | (simp; done) | (simp; omega)))) | ((with_reducible refine Below.setCell ?_ ?hB _); (case hB => (first | omega | (simp; done) | (simp; omega)))) | (with_reducible refine Below.drew ?_) | ((with_reducible refine below_ext_of ?_ ?hB); (case hB => (first | omega | (simp; done) | (simp; omega)))) | ((with_reducible refine Below.trans ?_ (Below.mono (by assumption) ?hB)); (case hB => (first | omega | (simp; done) | (simp; omega))))))⟩
        rw [HN.out]; rfl
  · have HN := Lib.hid (show decide (l = m) = false from decide_eq_false (fun h => hlen (by rw [h])))
    clear r1 r2
    go_enter Try.func14, Try.ntmps14
    go_wp2
    go_ret
    refine ⟨?_, by (repeat (first | (with_reducible exact Below.refl _ _) | ((with_reducible refine Below.alloc ?_ ?hB _); (case hB => (first | omega | (simp; done) | (simp; omega)))) | ((with_reducible refine Below.setCell ?_ ?hB _); (case hB => (first | omega | (simp; done) | (simp; omega)))) | (with_reducible refine Below.drew ?_) | ((with_reducible refine below_ext_of ?_ ?hB); (case hB => (first | omega | (simp; done) | (simp; omega)))) | ((with_reducible refine Below.trans ?_ (Below.mono (by assumption) ?hB)); (case hB => (first | omega | (simp; done) | (simp; omega))))))⟩
    rw [HN.out]; rfl
def around (n m : Int) : Int := (if n < 0 then -(n + 1) else n) % m
theorem around_neg (n m : Int) (h : n < 0) : -(n + 1).tmod m = around n m := by
  simp only [around, if_pos h]
  rw [← Int.neg_tmod, Int.tmod_eq_emod_of_nonneg (by omega)]
theorem around_pos (n m : Int) (h : 0 ≤ n) : n % m = around n m := by
  simp only [around, if_neg (show ¬ n < 0 by omega)]
theorem around_bd (n m : Int) (hm : 0 < m) : 0 ≤ around n m ∧ around n m ≤ m - 1 := by
  have h1 := Int.emod_nonneg (if n < 0 then -(n + 1) else n) (show m ≠ 0 by omega)
  have h2 := Int.emod_lt_of_pos (if n < 0 then -(n + 1) else n) hm
  unfold around; omega
theorem ref_Around (n m : Int) (w : World) (h1 : -9223372036854775808 ≤ n) (h2 : n ≤ 9223372036854775807) (h3 : 0 < m) (h4 : m ≤ 9223372036854775807) : Calls Try.prog 16 #[.int .i64 n, .int .i64 m] w fun e w' => e = .returned (.int .i64 (around n m)) ∧ w = w' := by
  have e1 := Lib.hid (fun h : n < 0 => around_neg n m h)
  have e2 := Lib.hid (fun h : 0 ≤ n => around_pos n m h)
  go_enter Try.func16, Try.ntmps16
  go_wp2
  all_goals (go_ret; refine ⟨?_, rfl⟩; first | exact congrArg (fun x => Ending.returned (.int .i64 x)) (e1.out ‹_›) | exact congrArg (fun x => Ending.returned (.int .i64 x)) (e2.out ‹_›))
end Go.Proofs.Ytinnaiofgbjicaa
namespace Go.Proofs.Ytinnaiofgbjicaa
open Go.RowKit Go.Proofs.YtinnaiofgbjicaaW.PrintWords
set_option linter.unusedSimpArgs false
set_option linter.unusedVariables false
set_option maxRecDepth 1000000
theorem one_u4 (n : Int) (r : List Int) (h : 0 ≤ n ∧ n ≤ 4294967295) : oneP 117 (b4 n ++ r) = some (vI n, r) := by
  unfold oneP
  have hl : ¬ (b4 n ++ r).length < 4 := by simp [b4]
  rw [if_neg (by decide), if_pos rfl, if_neg hl, numU_b4, b4_drop, show n % 4294967296 = n by omega]
  rfl
theorem one_i4 (n : Int) (r : List Int) (h : -2147483648 ≤ n ∧ n ≤ 2147483647) : oneP 105 (b4 n ++ r) = some (vI n, r) := by
  unfold oneP
  have hl : ¬ (b4 n ++ r).length < 4 := by simp [b4]
  rw [if_pos rfl, if_neg hl, numU_b4, b4_drop, show signN (n % 4294967296) = n by unfold signN; split <;> omega]
  rfl
theorem unp_two {f : ByteArray} {x y : V8} {b1 b2 : List Int} (hf : formP f = true) (hs : f.size = 2) (h0 : oneP (byN f 0) (b1 ++ b2) = some (x, b2)) (h1 : oneP (byN f 1) b2 = some (y, [])) : unpackP f (b1 ++ b2) = (0, [x, y]) := by
  have e1 : unpackFrom f (b1 ++ b2) 1 = some ([] ++ [x], b2) := unpackFrom_yes rfl h0
  have e2 := unpackFrom_yes e1 h1
  unfold unpackP; rw [if_pos hf, hs, e2]; rfl
theorem unp_one {f : ByteArray} {x : V8} {b1 : List Int} (hf : formP f = true) (hs : f.size = 1) (h0 : oneP (byN f 0) b1 = some (x, [])) : unpackP f b1 = (0, [x]) := by
  have e1 : unpackFrom f b1 1 = some ([] ++ [x], []) := unpackFrom_yes rfl h0
  unfold unpackP; rw [if_pos hf, hs, e1]; rfl
theorem unp_body (e : E4) (h : mayE e = true) : unpackP (formE e.k) (bodyE e) = (0, argsE e) := by
  have ht := (mayE_iff e).1 h
  obtain ⟨k, id, a, b⟩ := e
  unfold mayT at ht
  simp only at *
  rcases (show k = 0 ∨ k = 1 ∨ k = 2 ∨ k = 3 ∨ k = 4 ∨ k = 5 by omega) with rfl | rfl | rfl | rfl | rfl | rfl
  · show unpackP (formE 0) (b4 a ++ b4 b) = (0, [vI a, vI b])
    have := one_u4 b [] (by omega)
    rw [List.append_nil] at this
    exact unp_two (by decide +kernel) (by decide +kernel) (one_u4 a (b4 b) (by omega)) this
  · show unpackP (formE 1) (b4 a) = (0, [vI a])
    have := one_u4 a [] (by omega)
    rw [List.append_nil] at this
    exact unp_one (by decide +kernel) (by decide +kernel) this
  · rfl
  · show unpackP (formE 3) (b4 a ++ b4 b) = (0, [vI a, vI b])
    have := one_u4 b [] (by omega)
    rw [List.append_nil] at this
    exact unp_two (by decide +kernel) (by decide +kernel) (one_u4 a (b4 b) (by omega)) this
  · show unpackP (formE 4) (b4 a ++ b4 b) = (0, [vI a, vI b])
    have := one_i4 b [] (by omega)
    rw [List.append_nil] at this
    exact unp_two (by decide +kernel) (by decide +kernel) (one_i4 a (b4 b) (by omega)) this
  · rfl
theorem one_back (e : E4) (h : mayE e = true) : oneE (128 + e.k) e.id (bodyE e) = (0, e) := by
  have ht := (mayE_iff e).1 h
  have hu := unp_body e h
  have hk : 128 + e.k - 128 = e.k := by omega
  have hx : (⟨e.k, e.id, anyInt (at8 (argsE e) 0), anyInt (at8 (argsE e) 1)⟩ : E4) = e := by
    obtain ⟨k, id, a, b⟩ := e
    unfold mayT at ht
    simp only at *
    rcases (show k = 0 ∨ k = 1 ∨ k = 2 ∨ k = 3 ∨ k = 4 ∨ k = 5 by omega) with rfl | rfl | rfl | rfl | rfl | rfl
    · rfl
    · have : b = 0 := by omega
      subst this; rfl
    · have : a = 0 ∧ b = 0 := by omega
      obtain ⟨rfl, rfl⟩ := this; rfl
    · rfl
    · rfl
    · have : a = 0 ∧ b = 0 := by omega
      obtain ⟨rfl, rfl⟩ := this; rfl
  unfold oneE
  rw [hk, if_pos (show isE e.k = true from decide_eq_true ht.1), hu]
  simp only
  rw [if_pos trivial, hx, if_pos h]
theorem read_msg (e : E4) (r : List Int) (h : mayE e = true) : readP (msgE e ++ r) = .inr (⟨128 + e.k, e.id, bodyE e⟩, (msgE e).length) := by
  have ht := (mayE_iff e).1 h
  have hbl := bodyE_len e
  obtain ⟨ht1, ht2, _⟩ := ht
  obtain ⟨b, hb⟩ : ∃ b, bodyE e = b := ⟨_, rfl⟩
  have hm : msgE e = head7 (128 + e.k) e.id b.length ++ b := by unfold msgE msgB; rw [hb]
  rw [hb] at hbl ⊢
  rw [hm]
  have hl : (head7 (128 + e.k) e.id b.length ++ b).length = 7 + b.length := by simp [head7]; omega
  have hl2 : (head7 (128 + e.k) e.id b.length ++ b ++ r).length = 7 + b.length + r.length := by rw [List.length_append, hl]
  have hH : numH (head7 (128 + e.k) e.id b.length ++ b ++ r) = ((7 + b.length : Nat) : Int) := by
    show ((7 + (b.length : Int)) / 256 % 256) * 256 + (7 + (b.length : Int)) % 256 = _
    omega
  have := readP_ok (k := 7 + b.length) (by omega) hH (by omega) (by omega) (by omega)
  rw [this, hl]
  have h2 : (head7 (128 + e.k) e.id b.length ++ b ++ r).getD 2 0 = 128 + e.k := by
    show (128 + e.k) % 256 = _
    omega
  have h3 : numU ((head7 (128 + e.k) e.id b.length ++ b ++ r).drop 3) = e.id := by
    show (e.id / 16777216 % 256) * 16777216 + (e.id / 65536 % 256) * 65536 + (e.id / 256 % 256) * 256 + e.id % 256 = _
    omega
  have h4 : ((head7 (128 + e.k) e.id b.length ++ b ++ r).take (7 + b.length)).drop 7 = b := by
    rw [List.take_left' hl]; rfl
  rw [h2, h3, h4]
def msgOf (e : E4) : M3 := ⟨128 + e.k, e.id, bodyE e⟩
theorem msgE_pos (e : E4) : 7 ≤ (msgE e).length := by unfold msgE msgB; rw [List.length_append]; show 7 ≤ 7 + _; omega
theorem splitF_cat : ∀ (l : List E4) (f : Nat), (∀ e ∈ l, mayE e = true) → (catE l).length < f → splitF f (catE l) = (l.map msgOf, (catE l).length, 0)
  | [], f, _, hf => by
    obtain ⟨f, rfl⟩ : ∃ g, f = g + 1 := ⟨f - 1, by omega⟩
    rfl
  | e :: l, f, hm, hf => by
    obtain ⟨f, rfl⟩ : ∃ g, f = g + 1 := ⟨f - 1, by omega⟩
    have hc : catE (e :: l) = msgE e ++ catE l := by simp [catE]
    have h7 := msgE_pos e
    rw [hc] at hf ⊢
    rw [List.length_append] at hf
    have ih := splitF_cat l f (fun x hx => hm x (List.mem_cons_of_mem _ hx)) (by omega)
    rw [splitF, if_neg (by rw [List.length_append]; omega), read_msg e (catE l) (hm e (List.mem_cons_self ..))]
    simp only
    rw [List.drop_left, ih]
    simp [msgOf]
theorem splitP_cat (l : List E4) (hm : ∀ e ∈ l, mayE e = true) : splitP (catE l) = (l.map msgOf, (catE l).length, 0) := splitF_cat l _ hm (by omega)
theorem evs_cat (l : List E4) (hm : ∀ e ∈ l, mayE e = true) : ∀ k, k ≤ l.length → evsFrom (l.map msgOf) k = .inr (l.take k)
  | 0, _ => by simp [evsFrom]
  | k + 1, hk => by
    have ih := evs_cat l hm k (by omega)
    have hx : atM (l.map msgOf) k = msgOf (atE l k) := by rw [atM_get (by simp; omega), atE_get (by omega)]; simp
    have := evsFrom_yes (e := atE l k) ih (by rw [hx]; exact one_back _ (hm _ (by rw [atE_get (by omega)]; exact List.getElem_mem _)))
    rw [this, takeEv l k (by omega)]
theorem read_cat (l : List E4) (hm : ∀ i, i < l.length → mayE (atE l i) = true) : readE (catE l) = (0, l) := by
  have hm' : ∀ e ∈ l, mayE e = true := fun e he => by
    obtain ⟨i, hi, rfl⟩ := List.getElem_of_mem he
    rw [← atE_get hi]; exact hm i hi
  have := evs_cat l hm' l.length (Nat.le_refl _)
  rw [List.take_length] at this
  exact readE_ok (splitP_cat l hm') (by simpa using this)
end Go.Proofs.Ytinnaiofgbjicaa
namespace Go.Proofs.Ytinnaiofgbjicaa
open Go.RowKit Go.Proofs.YtinnaiofgbjicaaW.PrintWords
set_option linter.unusedSimpArgs false
set_option linter.unusedVariables false
set_option maxRecDepth 1000000
theorem Byt.set {b : List Int} (h : Byt b) (j : Nat) {x : Int} (hx : 0 ≤ x ∧ x ≤ 255) : Byt (b.set j x) := fun n hn => by
  rcases List.mem_or_eq_of_mem_set hn with h1 | h1
  · exact h n h1
  · rw [h1]; exact hx
theorem byt_app {a b : List Int} (h1 : Byt a) (h2 : Byt b) : Byt (a ++ b) := fun n hn => by
  rcases List.mem_append.1 hn with h | h
  · exact h1 n h
  · exact h2 n h
theorem nums_set (b : List Int) (j : Nat) (x : Int) : (nums .u8 b).set j (.int .u8 x) = nums .u8 (b.set j x) := by simp [nums, List.map_set]
set_option maxHeartbeats 2000000 in
theorem walk_EventReads (A : Option Addr) (l : List E4) (c : Nat) (at_ x : Int) (B : Option Addr) (b2 : List Int) (c2 : Nat) (w : World) (hr : ER w A l c) (hbd : ∀ i, i < l.length → (atE l i).Bd) (hat : -9223372036854775808 ≤ at_ ∧ at_ ≤ 9223372036854775807) (hx : 0 ≤ x ∧ x ≤ 255) (hB : BS w B b2 c2) : Calls Try.prog 5 #[.slice A l.length c, .int .i64 at_, .int .u8 x, .slice B b2.length c2] w fun e w' => e = .returned (.bool true) ∧ Below w.heap.size w w' := by
  have hrow := hr.row
  have hll := hr.len
  have HLV := Lib.hid ev_lives
  have cF : ∀ w, Calls Try.prog 17 #[.slice B b2.length c2, .int .i64 20] w (fun e w' => e = .returned (.slice B (min b2.length 20) c2) ∧ w = w') := fun w => ref_Few B b2.length c2 20 w hB.le (by omega) (Nat.le_trans hB.le hB.max)
  have hFB := hB.take (min b2.length 20) (by omega)
  have hfl : (b2.take (min b2.length 20)).length = min b2.length 20 := by rw [List.length_take]; omega
  generalize b2.take (min b2.length 20) = fb at *
  rw [← hfl] at cF
  have hfb : fb.length ≤ 20 := by omega
  clear hr hfl hB
  have HFB := Lib.hid hFB
  clear hFB
  go_enter Try.func5, Try.ntmps5
  go_wp2
  go_loopw [9, 10] (fun v i wr => ∃ (k : Nat) (m : List E4), k ≤ l.length ∧ k ≤ 4 ∧ i = .int .i64 k ∧ m = goods (l.take k) ∧ Below w.heap.size w wr ∧ OwnE wr w.heap.size 25 v m) (fun _ i _ => 4 - (intOf i).toNat)
  case atStart => exact ⟨0, [], by omega, by omega, rfl, rfl, Below.refl _ _, OwnE.nil _ _ _⟩
  case round =>
    obtain ⟨k, m, hk, hk4, rfl, hm, hbr, hown⟩ := hrel
    have hzr := hbr.size
    have hml : m.length = k := by rw [hm, goods_len]; simp; omega
    have hm4 : m.length ≤ 4 := by omega
    have HM := Lib.hid hm
    have HML := Lib.hid hml
    have HBR := Lib.hid hbr
    clear hml
    by_cases hc : k < l.length ∧ k < 4
    · obtain ⟨hlt, hlt4⟩ := hc
      obtain ⟨ad, rfl, f0, f1, f2, f3⟩ := hrow k hlt
      have q0 := pw_cell_below hbr f0; have q1 := pw_cell_below hbr f1; have q2 := pw_cell_below hbr f2; have q3 := pw_cell_below hbr f3
      have hxb := hbd k hlt
      have ht := Lib.hid (takeEv l k hlt)
      clear f0 f1 f2 f3 hrow hbd hm
      generalize atE l k = x at *
      have cG := fun w => ref_GoodE x w hxb
      have HS := Lib.hid (goods_snoc (l.take k) x)
      generalize goodE x = g at *
      clear hxb
      go_wp2_with (first | (go_at_call 6; (with_reducible refine (cG _).mono ?_); rintro en w1 ⟨rfl, hb1⟩; obtain ⟨hc1, hf1⟩ := bcell hb1; have hz1 := hb1.size; (try simp only [World.size_alloc, World.size_setCell, World.size_drew] at hz1)) | (at_builtin; refine print_append_cells (w0 := w) (w.heap.size) rfl _ _ 22 25 _ 4 32 rfl (Try.underlying22) info_ee rfl (by decide) (by decide) _ _ _ [.int .i64 (g).k, .int .i64 (g).id, .int .i64 (g).a, .int .i64 (g).b] rfl ?_ rfl ?_ (OwnE.below hown ?_) ?_ ?_ ?_ ?_; (focus (go_simp; done)); (focus (simp [Value.oneCell']; done)); (focus ((repeat (first | (with_reducible exact Below.refl _ _) | ((with_reducible refine Below.alloc ?_ ?hB _); (case hB => (first | omega | (simp; done) | (simp; omega)))) | ((with_reducible refine Below.setCell ?_ ?hB _); (case hB => (first | omega | (simp; done) | (simp; omega)))) | (with_reducible refine Below.drew ?_) | ((with_reducible refine below_ext_of ?_ ?hB); (case hB => (first | omega | (simp; done) | (simp; omega)))) | ((with_reducible refine Below.trans ?_ (Below.mono (by assumption) ?hB)); (case hB => (first | omega | (simp; done) | (simp; omega)))))); done)); (focus ((repeat (first | (with_reducible exact Below.refl _ _) | ((with_reducible refine Below.alloc ?_ ?hB _); (case hB => (first | omega | (simp; done) | (simp; omega)))) | ((with_reducible refine Below.setCell ?_ ?hB _); (case hB => (first | omega | (simp; done) | (simp; omega)))) | (with_reducible refine Below.drew ?_) | ((with_reducible refine below_ext_of ?_ ?hB); (case hB => (first | omega | (simp; done) | (simp; omega)))) | ((with_reducible refine Below.trans ?_ (Below.mono (by assumption) ?hB)); (case hB => (first | omega | (simp; done) | (simp; omega)))))); done)); (focus ((first | omega | (simp; done) | (simp; omega)); done)); (focus omega); intro v2 w2 hown2 hb2 _ _; have hz2 := hb2.size; (try simp only [World.size_alloc, World.size_setCell, World.size_drew] at hz2)))
      go_roundw
      case rel => exact ⟨k + 1, m ++ [g], by omega, by omega, by go_num, by rw [ht.out, HS.out, ← HM.out], hb2, OwnE.snoc hown2⟩
      case measure => simp [intOf]; omega
    · have hg : (k < l.length ∧ ¬ k < 4) ∨ ¬ k < l.length := by omega
      have hmay := goods_may (l.take k)
      have hmb := goods_bd (l.take k)
      rw [← hm] at hmay hmb
      obtain ⟨A1, c1, rfl, hr1⟩ := hown.er
      have hbl := catE_len m
      have cW := fun w1 h => ref_WriteO A1 m c1 w1 (by omega) h hmb
      rw [wrP_good m hmay] at cW
      obtain ⟨b, hb⟩ : ∃ b, catE m = b := ⟨_, rfl⟩
      have hby := catE_byt m
      rw [hb] at cW hbl hby
      have cW : ∀ w1, ER w1 A1 m c1 → Calls Try.prog 12 #[.slice A1 m.length c1] w1 (fun e w' => ∃ v, e = .returned (.tuple #[v, .int .i64 0]) ∧ w'.ownsRow w1.heap.size 5 1 v b.length (nums .u8 b) ∧ Byt b ∧ Below w1.heap.size w1 w') := cW
      have HR := Lib.hid hr1
      have hb6 : b.length ≤ 196 := by omega
      clear hm hb hown hmay hmb hrow hbd hr1 hc hbl
      by_cases hb0 : 0 < b.length
      · obtain ⟨j, hj⟩ : ∃ j : Nat, around at_ b.length = (j : Int) := ⟨(around at_ b.length).toNat, by have := around_bd at_ b.length (by omega); omega⟩
        have hjl : j < b.length := by have := around_bd at_ b.length (by omega); omega
        have hsl : (b.set j x).length = b.length := List.length_set
        have cA := fun w => ref_Around at_ b.length w hat.1 hat.2 (by omega) (by omega)
        rw [hj] at cA
        obtain ⟨al, hal⟩ : ∃ al, b.set j x ++ fb = al := ⟨_, rfl⟩
        have HAL := Lib.hid hal
        have hal6 : al.length ≤ 216 := by rw [← hal, List.length_append, List.length_set]; omega
        have HYA := Lib.hid (show Byt al from hal ▸ byt_app (hby.set j hx) HFB.out.byt)
        rcases hre : readE al with ⟨i, le⟩; have cR : ∀ A c w', BS w' A al c → Calls Try.prog 13 #[.slice A al.length c] w' (fun en w'' => ∃ v, en = .returned (.tuple #[v, .int .i64 i]) ∧ OwnE w'' w'.heap.size 35 v le ∧ Below w'.heap.size w' w'') := (fun A c w' h => by have := ev_Read A al c w' h (by omega); rw [hre] at this; exact this); have cQ : ∀ A c w', BS w' A al c → Calls Try.prog 18 #[.slice A al.length c] w' (fun en w'' => ∃ v, en = .returned (.tuple #[v, .int .i64 i]) ∧ OwnE w'' w'.heap.size 25 v le ∧ Below w'.heap.size w' w'') := (fun A c w' h => by have := ref_ReadEv A al c w' h (by omega); rw [hre] at this; exact this); have hle6 : le.length ≤ 1000000 := (by have := (readE_may al HYA.out).1; rw [hre] at this; simp only at this; omega); have cSa : ∀ A1 A2 c1 c2 w', ER w' A1 le c1 → ER w' A2 le c2 → Calls Try.prog 14 #[.slice A1 le.length c1, .slice A2 le.length c2] w' (fun e w'' => e = .returned (.bool true) ∧ Below w'.heap.size w' w'') := (fun A1 A2 c1 c2 w' h1 h2 => by have := ref_SameE A1 A2 le le c1 c2 w' h1 h2; rw [decide_eq_true rfl] at this; exact this); clear hre
        clear hal hby hj
        rcases hg with ⟨hg1, hg2⟩ | hg1
        all_goals
          go_wp2_with (first | ((go_at_call 12; (with_reducible refine (cW _ (HR.out.below ?_)).mono ?_); (focus ((repeat (first | (with_reducible exact Below.refl _ _) | ((with_reducible refine Below.alloc ?_ ?hB _); (case hB => (first | omega | (simp; done) | (simp; omega)))) | ((with_reducible refine Below.setCell ?_ ?hB _); (case hB => (first | omega | (simp; done) | (simp; omega)))) | (with_reducible refine Below.drew ?_) | ((with_reducible refine below_ext_of ?_ ?hB); (case hB => (first | omega | (simp; done) | (simp; omega)))) | ((with_reducible refine Below.trans ?_ (Below.mono (by assumption) ?hB)); (case hB => (first | omega | (simp; done) | (simp; omega)))))); done)); rintro en w3 ⟨v3, rfl, ho3, _, hb3⟩; have hz3 := hb3.size; (try simp only [World.size_alloc, World.size_setCell, World.size_drew] at hz3)); obtain ⟨g, cap, rfl, _⟩ := ho3.form hb0; have hlt3 := World.ownsRow.lt ho3 g rfl; obtain ⟨hge3, hlt3⟩ := hlt3; have hcj := ho3.cellAt j (by omega); obtain ⟨y3, hy3⟩ : ∃ y, (nums .u8 b)[j]? = some y := ⟨_, List.getElem?_eq_getElem (by simp [nums]; omega)⟩; rw [hy3] at hcj; clear hy3; have hfj := ho3.frozenAt j; have HOS := Lib.hid (ho3.stored j (.int .u8 x)).1; replace HOS := Lib.hid (nums_set b j x ▸ HOS.out); have HOS := Lib.hid (show (w3.setCell ⟨g, j, none⟩ (.int .u8 x)).ownsRow wr.heap.size 5 1 (.slice (some ⟨g, 0, none⟩) b.length cap) (b.set j x).length (nums .u8 (b.set j x)) from by rw [List.length_set]; exact HOS.out); clear ho3) | (go_at_call 16; (with_reducible refine (cA _).mono ?_); rintro e w1 ⟨rfl, rfl⟩) | (go_at_call 17; (with_reducible refine (cF _).mono ?_); rintro en w4 ⟨rfl, rfl⟩) | ((at_builtin; refine print_append_row (w0 := wr) (wr.heap.size) rfl _ _ 23 5 .u8 1 rfl Try.underlying23 info_u8 (by decide) _ ((b.set j x)) (fb) _ _ _ rfl rfl (pw_own_below HOS.out ?_) (ReadsInt.below HFB.out.rd ?_) ?_ ?_ ?_ ?_; (focus ((repeat (first | (with_reducible exact Below.refl _ _) | ((with_reducible refine Below.alloc ?_ ?hB _); (case hB => (first | omega | (simp; done) | (simp; omega)))) | ((with_reducible refine Below.setCell ?_ ?hB _); (case hB => (first | omega | (simp; done) | (simp; omega)))) | (with_reducible refine Below.drew ?_) | ((with_reducible refine below_ext_of ?_ ?hB); (case hB => (first | omega | (simp; done) | (simp; omega)))) | ((with_reducible refine Below.trans ?_ (Below.mono (by assumption) ?hB)); (case hB => (first | omega | (simp; done) | (simp; omega)))))); done)); (focus ((repeat (first | (with_reducible exact Below.refl _ _) | ((with_reducible refine Below.alloc ?_ ?hB _); (case hB => (first | omega | (simp; done) | (simp; omega)))) | ((with_reducible refine Below.setCell ?_ ?hB _); (case hB => (first | omega | (simp; done) | (simp; omega)))) | (with_reducible refine Below.drew ?_) | ((with_reducible refine below_ext_of ?_ ?hB); (case hB => (first | omega | (simp; done) | (simp; omega)))) | ((with_reducible refine Below.trans ?_ (Below.mono (by assumption) ?hB)); (case hB => (first | omega | (simp; done) | (simp; omega)))))); done)); (focus ((repeat (first | (with_reducible exact Below.refl _ _) | ((with_reducible refine Below.alloc ?_ ?hB _); (case hB => (first | omega | (simp; done) | (simp; omega)))) | ((with_reducible refine Below.setCell ?_ ?hB _); (case hB => (first | omega | (simp; done) | (simp; omega)))) | (with_reducible refine Below.drew ?_) | ((with_reducible refine below_ext_of ?_ ?hB); (case hB => (first | omega | (simp; done) | (simp; omega)))) | ((with_reducible refine Below.trans ?_ (Below.mono (by assumption) ?hB)); (case hB => (first | omega | (simp; done) | (simp; omega)))))); done)); (focus ((first | omega | (simp; done) | (simp; omega)); done)); (focus ((try simp only [List.length_append, List.length_cons, List.length_nil]); omega)); intro v5 w5 hown5 hb5 _ _; have hz5 := hb5.size; (try simp only [World.size_alloc, World.size_setCell, World.size_drew] at hz5); obtain ⟨hc5, hf5⟩ := bcellB hb5); (rw [HAL.out] at hown5; obtain ⟨A5, c5, rfl, hs5⟩ := BS.own hown5 HYA.out; replace hs5 := Lib.hid hs5; clear hown5)) | (go_at_call 13; (with_reducible refine (cR _ _ _ (hs5.out.below ?_)).mono ?_); (focus ((repeat (first | (with_reducible exact Below.refl _ _) | ((with_reducible refine Below.alloc ?_ ?hB _); (case hB => (first | omega | (simp; done) | (simp; omega)))) | ((with_reducible refine Below.setCell ?_ ?hB _); (case hB => (first | omega | (simp; done) | (simp; omega)))) | (with_reducible refine Below.drew ?_) | ((with_reducible refine below_ext_of ?_ ?hB); (case hB => (first | omega | (simp; done) | (simp; omega)))) | ((with_reducible refine Below.trans ?_ (Below.mono (by assumption) ?hB)); (case hB => (first | omega | (simp; done) | (simp; omega)))))); done)); rintro en w6 ⟨v6, rfl, ho6, hb6⟩; obtain ⟨A6, c6, rfl, hr6⟩ := ho6.er; clear ho6; have hz6 := hb6.size; replace hr6 := Lib.hid hr6; (try simp only [World.size_alloc, World.size_setCell, World.size_drew] at hz6)) | (go_at_call 18; (with_reducible refine (cQ _ _ _ (hs5.out.below ?_)).mono ?_); (focus ((repeat (first | (with_reducible exact Below.refl _ _) | ((with_reducible refine Below.alloc ?_ ?hB _); (case hB => (first | omega | (simp; done) | (simp; omega)))) | ((with_reducible refine Below.setCell ?_ ?hB _); (case hB => (first | omega | (simp; done) | (simp; omega)))) | (with_reducible refine Below.drew ?_) | ((with_reducible refine below_ext_of ?_ ?hB); (case hB => (first | omega | (simp; done) | (simp; omega)))) | ((with_reducible refine Below.trans ?_ (Below.mono (by assumption) ?hB)); (case hB => (first | omega | (simp; done) | (simp; omega)))))); done)); rintro en w7 ⟨v7, rfl, ho7, hb7⟩; obtain ⟨A7, c7, rfl, hr7⟩ := ho7.er; clear ho7; have hz7 := hb7.size; replace hr7 := Lib.hid hr7; (try simp only [World.size_alloc, World.size_setCell, World.size_drew] at hz7)) | (go_at_call 15; (with_reducible refine (law_asE _ _ _ _ hle6 (hr6.out.below ?_)).mono ?_); (focus ((repeat (first | (with_reducible exact Below.refl _ _) | ((with_reducible refine Below.alloc ?_ ?hB _); (case hB => (first | omega | (simp; done) | (simp; omega)))) | ((with_reducible refine Below.setCell ?_ ?hB _); (case hB => (first | omega | (simp; done) | (simp; omega)))) | (with_reducible refine Below.drew ?_) | ((with_reducible refine below_ext_of ?_ ?hB); (case hB => (first | omega | (simp; done) | (simp; omega)))) | ((with_reducible refine Below.trans ?_ (Below.mono (by assumption) ?hB)); (case hB => (first | omega | (simp; done) | (simp; omega)))))); done)); rintro en w8 ⟨v8, rfl, ho8, hb8⟩; obtain ⟨A8, c8, rfl, hr8⟩ := ho8.er; clear ho8; have hz8 := hb8.size; replace hr8 := Lib.hid hr8; (try simp only [World.size_alloc, World.size_setCell, World.size_drew] at hz8)) | (go_at_call 14; (with_reducible refine (cSa _ _ _ _ _ hr8.out (hr7.out.below ?_)).mono ?_); (focus ((repeat (first | (with_reducible exact Below.refl _ _) | ((with_reducible refine Below.alloc ?_ ?hB _); (case hB => (first | omega | (simp; done) | (simp; omega)))) | ((with_reducible refine Below.setCell ?_ ?hB _); (case hB => (first | omega | (simp; done) | (simp; omega)))) | (with_reducible refine Below.drew ?_) | ((with_reducible refine below_ext_of ?_ ?hB); (case hB => (first | omega | (simp; done) | (simp; omega)))) | ((with_reducible refine Below.trans ?_ (Below.mono (by assumption) ?hB)); (case hB => (first | omega | (simp; done) | (simp; omega)))))); done)); rintro en w9 ⟨rfl, hb9⟩; have hz9 := hb9.size; (try simp only [World.size_alloc, World.size_setCell, World.size_drew] at hz9)) | (go_at_call 9; (with_reducible refine (HLV.out _).mono ?_); rintro en w10 ⟨rfl, hb10⟩; have hz10 := hb10.size))
          go_ret
          exact ⟨rfl, HBR.out.trans (Below.mono (show Below wr.heap.size wr _ from by (repeat (first | (with_reducible exact Below.refl _ _) | ((with_reducible refine Below.alloc ?_ ?hB _); (case hB => (first | omega | (simp; done) | (simp; omega)))) | ((with_reducible refine Below.setCell ?_ ?hB _); (case hB => (first | omega | (simp; done) | (simp; omega)))) | (with_reducible refine Below.drew ?_) | ((with_reducible refine below_ext_of ?_ ?hB); (case hB => (first | omega | (simp; done) | (simp; omega)))) | ((with_reducible refine Below.trans ?_ (Below.mono (by assumption) ?hB)); (case hB => (first | omega | (simp; done) | (simp; omega))))))) hzr)⟩
      · obtain rfl : b = [] := List.eq_nil_of_length_eq_zero (by omega)
        obtain ⟨al, hal⟩ : ∃ al, [] ++ fb = al := ⟨_, rfl⟩
        have HAL := Lib.hid hal
        have hal6 : al.length ≤ 216 := by rw [← hal, List.length_append, List.length_nil]; omega
        have HYA := Lib.hid (show Byt al from by rw [← hal]; exact HFB.out.byt)
        rcases hre : readE al with ⟨i, le⟩; have cR : ∀ A c w', BS w' A al c → Calls Try.prog 13 #[.slice A al.length c] w' (fun en w'' => ∃ v, en = .returned (.tuple #[v, .int .i64 i]) ∧ OwnE w'' w'.heap.size 35 v le ∧ Below w'.heap.size w' w'') := (fun A c w' h => by have := ev_Read A al c w' h (by omega); rw [hre] at this; exact this); have cQ : ∀ A c w', BS w' A al c → Calls Try.prog 18 #[.slice A al.length c] w' (fun en w'' => ∃ v, en = .returned (.tuple #[v, .int .i64 i]) ∧ OwnE w'' w'.heap.size 25 v le ∧ Below w'.heap.size w' w'') := (fun A c w' h => by have := ref_ReadEv A al c w' h (by omega); rw [hre] at this; exact this); have hle6 : le.length ≤ 1000000 := (by have := (readE_may al HYA.out).1; rw [hre] at this; simp only at this; omega); have cSa : ∀ A1 A2 c1 c2 w', ER w' A1 le c1 → ER w' A2 le c2 → Calls Try.prog 14 #[.slice A1 le.length c1, .slice A2 le.length c2] w' (fun e w'' => e = .returned (.bool true) ∧ Below w'.heap.size w' w'') := (fun A1 A2 c1 c2 w' h1 h2 => by have := ref_SameE A1 A2 le le c1 c2 w' h1 h2; rw [decide_eq_true rfl] at this; exact this); clear hre
        clear hal hby
        rcases hg with ⟨hg1, hg2⟩ | hg1
        all_goals
          go_wp2_with (first | ((go_at_call 12; (with_reducible refine (cW _ (HR.out.below ?_)).mono ?_); (focus ((repeat (first | (with_reducible exact Below.refl _ _) | ((with_reducible refine Below.alloc ?_ ?hB _); (case hB => (first | omega | (simp; done) | (simp; omega)))) | ((with_reducible refine Below.setCell ?_ ?hB _); (case hB => (first | omega | (simp; done) | (simp; omega)))) | (with_reducible refine Below.drew ?_) | ((with_reducible refine below_ext_of ?_ ?hB); (case hB => (first | omega | (simp; done) | (simp; omega)))) | ((with_reducible refine Below.trans ?_ (Below.mono (by assumption) ?hB)); (case hB => (first | omega | (simp; done) | (simp; omega)))))); done)); rintro en w3 ⟨v3, rfl, ho3, _, hb3⟩; have hz3 := hb3.size; (try simp only [World.size_alloc, World.size_setCell, World.size_drew] at hz3)); obtain ⟨A3, c3, rfl⟩ := own_slice ho3; have HOS := Lib.hid ho3; clear ho3) | (go_at_call 17; (with_reducible refine (cF _).mono ?_); rintro en w4 ⟨rfl, rfl⟩) | ((at_builtin; refine print_append_row (w0 := wr) (wr.heap.size) rfl _ _ 23 5 .u8 1 rfl Try.underlying23 info_u8 (by decide) _ (([] : List Int)) (fb) _ _ _ rfl rfl (pw_own_below HOS.out ?_) (ReadsInt.below HFB.out.rd ?_) ?_ ?_ ?_ ?_; (focus ((repeat (first | (with_reducible exact Below.refl _ _) | ((with_reducible refine Below.alloc ?_ ?hB _); (case hB => (first | omega | (simp; done) | (simp; omega)))) | ((with_reducible refine Below.setCell ?_ ?hB _); (case hB => (first | omega | (simp; done) | (simp; omega)))) | (with_reducible refine Below.drew ?_) | ((with_reducible refine below_ext_of ?_ ?hB); (case hB => (first | omega | (simp; done) | (simp; omega)))) | ((with_reducible refine Below.trans ?_ (Below.mono (by assumption) ?hB)); (case hB => (first | omega | (simp; done) | (simp; omega)))))); done)); (focus ((repeat (first | (with_reducible exact Below.refl _ _) | ((with_reducible refine Below.alloc ?_ ?hB _); (case hB => (first | omega | (simp; done) | (simp; omega)))) | ((with_reducible refine Below.setCell ?_ ?hB _); (case hB => (first | omega | (simp; done) | (simp; omega)))) | (with_reducible refine Below.drew ?_) | ((with_reducible refine below_ext_of ?_ ?hB); (case hB => (first | omega | (simp; done) | (simp; omega)))) | ((with_reducible refine Below.trans ?_ (Below.mono (by assumption) ?hB)); (case hB => (first | omega | (simp; done) | (simp; omega)))))); done)); (focus ((repeat (first | (with_reducible exact Below.refl _ _) | ((with_reducible refine Below.alloc ?_ ?hB _); (case hB => (first | omega | (simp; done) | (simp; omega)))) | ((with_reducible refine Below.setCell ?_ ?hB _); (case hB => (first | omega | (simp; done) | (simp; omega)))) | (with_reducible refine Below.drew ?_) | ((with_reducible refine below_ext_of ?_ ?hB); (case hB => (first | omega | (simp; done) | (simp; omega)))) | ((with_reducible refine Below.trans ?_ (Below.mono (by assumption) ?hB)); (case hB => (first | omega | (simp; done) | (simp; omega)))))); done)); (focus ((first | omega | (simp; done) | (simp; omega)); done)); (focus ((try simp only [List.length_append, List.length_cons, List.length_nil]); omega)); intro v5 w5 hown5 hb5 _ _; have hz5 := hb5.size; (try simp only [World.size_alloc, World.size_setCell, World.size_drew] at hz5); obtain ⟨hc5, hf5⟩ := bcellB hb5); (rw [HAL.out] at hown5; obtain ⟨A5, c5, rfl, hs5⟩ := BS.own hown5 HYA.out; replace hs5 := Lib.hid hs5; clear hown5)) | (go_at_call 13; (with_reducible refine (cR _ _ _ (hs5.out.below ?_)).mono ?_); (focus ((repeat (first | (with_reducible exact Below.refl _ _) | ((with_reducible refine Below.alloc ?_ ?hB _); (case hB => (first | omega | (simp; done) | (simp; omega)))) | ((with_reducible refine Below.setCell ?_ ?hB _); (case hB => (first | omega | (simp; done) | (simp; omega)))) | (with_reducible refine Below.drew ?_) | ((with_reducible refine below_ext_of ?_ ?hB); (case hB => (first | omega | (simp; done) | (simp; omega)))) | ((with_reducible refine Below.trans ?_ (Below.mono (by assumption) ?hB)); (case hB => (first | omega | (simp; done) | (simp; omega)))))); done)); rintro en w6 ⟨v6, rfl, ho6, hb6⟩; obtain ⟨A6, c6, rfl, hr6⟩ := ho6.er; clear ho6; have hz6 := hb6.size; replace hr6 := Lib.hid hr6; (try simp only [World.size_alloc, World.size_setCell, World.size_drew] at hz6)) | (go_at_call 18; (with_reducible refine (cQ _ _ _ (hs5.out.below ?_)).mono ?_); (focus ((repeat (first | (with_reducible exact Below.refl _ _) | ((with_reducible refine Below.alloc ?_ ?hB _); (case hB => (first | omega | (simp; done) | (simp; omega)))) | ((with_reducible refine Below.setCell ?_ ?hB _); (case hB => (first | omega | (simp; done) | (simp; omega)))) | (with_reducible refine Below.drew ?_) | ((with_reducible refine below_ext_of ?_ ?hB); (case hB => (first | omega | (simp; done) | (simp; omega)))) | ((with_reducible refine Below.trans ?_ (Below.mono (by assumption) ?hB)); (case hB => (first | omega | (simp; done) | (simp; omega)))))); done)); rintro en w7 ⟨v7, rfl, ho7, hb7⟩; obtain ⟨A7, c7, rfl, hr7⟩ := ho7.er; clear ho7; have hz7 := hb7.size; replace hr7 := Lib.hid hr7; (try simp only [World.size_alloc, World.size_setCell, World.size_drew] at hz7)) | (go_at_call 15; (with_reducible refine (law_asE _ _ _ _ hle6 (hr6.out.below ?_)).mono ?_); (focus ((repeat (first | (with_reducible exact Below.refl _ _) | ((with_reducible refine Below.alloc ?_ ?hB _); (case hB => (first | omega | (simp; done) | (simp; omega)))) | ((with_reducible refine Below.setCell ?_ ?hB _); (case hB => (first | omega | (simp; done) | (simp; omega)))) | (with_reducible refine Below.drew ?_) | ((with_reducible refine below_ext_of ?_ ?hB); (case hB => (first | omega | (simp; done) | (simp; omega)))) | ((with_reducible refine Below.trans ?_ (Below.mono (by assumption) ?hB)); (case hB => (first | omega | (simp; done) | (simp; omega)))))); done)); rintro en w8 ⟨v8, rfl, ho8, hb8⟩; obtain ⟨A8, c8, rfl, hr8⟩ := ho8.er; clear ho8; have hz8 := hb8.size; replace hr8 := Lib.hid hr8; (try simp only [World.size_alloc, World.size_setCell, World.size_drew] at hz8)) | (go_at_call 14; (with_reducible refine (cSa _ _ _ _ _ hr8.out (hr7.out.below ?_)).mono ?_); (focus ((repeat (first | (with_reducible exact Below.refl _ _) | ((with_reducible refine Below.alloc ?_ ?hB _); (case hB => (first | omega | (simp; done) | (simp; omega)))) | ((with_reducible refine Below.setCell ?_ ?hB _); (case hB => (first | omega | (simp; done) | (simp; omega)))) | (with_reducible refine Below.drew ?_) | ((with_reducible refine below_ext_of ?_ ?hB); (case hB => (first | omega | (simp; done) | (simp; omega)))) | ((with_reducible refine Below.trans ?_ (Below.mono (by assumption) ?hB)); (case hB => (first | omega | (simp; done) | (simp; omega)))))); done)); rintro en w9 ⟨rfl, hb9⟩; have hz9 := hb9.size; (try simp only [World.size_alloc, World.size_setCell, World.size_drew] at hz9)) | (go_at_call 9; (with_reducible refine (HLV.out _).mono ?_); rintro en w10 ⟨rfl, hb10⟩; have hz10 := hb10.size))
          go_ret
          exact ⟨rfl, HBR.out.trans (Below.mono (show Below wr.heap.size wr _ from by (repeat (first | (with_reducible exact Below.refl _ _) | ((with_reducible refine Below.alloc ?_ ?hB _); (case hB => (first | omega | (simp; done) | (simp; omega)))) | ((with_reducible refine Below.setCell ?_ ?hB _); (case hB => (first | omega | (simp; done) | (simp; omega)))) | (with_reducible refine Below.drew ?_) | ((with_reducible refine below_ext_of ?_ ?hB); (case hB => (first | omega | (simp; done) | (simp; omega)))) | ((with_reducible refine Below.trans ?_ (Below.mono (by assumption) ?hB)); (case hB => (first | omega | (simp; done) | (simp; omega))))))) hzr)⟩
end Go.Proofs.Ytinnaiofgbjicaa
