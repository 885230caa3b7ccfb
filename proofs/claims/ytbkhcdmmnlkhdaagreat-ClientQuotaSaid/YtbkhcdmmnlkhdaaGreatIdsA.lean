/- A client's ids: a table, walked. -/
import Derived.Test.YtbkhcdmmnlkhdaaGreatProg
import Derived.Test.YtbkhcdmmnlkhdaaGreatTail
import Derived.Test.YtbkhcdmmnlkhdaaGreatMid
import Derived.Test.YtbkhcdmmnlkhdaaGreatWWords
import Derived.Maps.OwnSet
import Derived.Maps.Views
import Derived.WalkKit
namespace Go.Proofs.YtbkhcdmmnlkhdaaGreat
open Go.RowKit Go.Maps Go.Proofs.YtbkhcdmmnlkhdaaGreatW.PrintWords
set_option linter.unusedSimpArgs false
set_option linter.unusedVariables false
set_option maxRecDepth 1000000
theorem kInt : Keyed Tryz.prog 3 := int_keyed Tryz.underlying3
theorem zInt (w : World) : (zeroValue 3).run Tryz.prog w = .ok (.int .i64 0) w := by kernel_rfl
/-- An id's kind in a list of ids and kinds; 0: none. -/
def kindL : List (Int × Int) → Int → Int
  | [], _ => 0
  | e :: L, x => if e.1 = x then e.2 else kindL L x
theorem kindL_snoc (L : List (Int × Int)) (x k y : Int) (h : x ∉ L.map (·.1)) : kindL (L ++ [(x, k)]) y = if x = y then k else kindL L y := by
  induction L with
  | nil => simp [kindL]
  | cons e L ih =>
    simp only [List.map_cons, List.mem_cons, not_or] at h
    simp only [List.cons_append, kindL]
    rw [ih h.2]
    by_cases h1 : e.1 = y
    · rw [if_pos h1, if_neg (fun e2 => h.1 (e2.trans h1.symm)), if_pos h1]
    · rw [if_neg h1, if_neg h1]
/-- A map as read holds just these ids, each once. -/
structure TabL (D : DataW Unit) (L : List (Int × Int)) : Prop where
  at_ : ∀ x, D.atKey (.int .i64 x) (.lit (.int .i64 0)) = .lit (.int .i64 (kindL L x))
  has_ : ∀ x, Maps.has D (.int .i64 x) = decide (x ∈ L.map (·.1))
  size_ : Maps.size D = L.length
theorem TabL.nil : TabL (.map []) [] := ⟨fun x => rfl, fun x => rfl, rfl⟩
theorem key_ne {x y : Int} (h : x ≠ y) : (Lit.int .i64 x) ≠ (Lit.int .i64 y) := fun e => by injection e with _ e; exact h e
theorem isKeyI (x : Int) : WideAt.IsKeyLit (.int .i64 x) := by trivial
theorem TabL.put {D : DataW Unit} {L : List (Int × Int)} (h : TabL D L) (hT : Tidy D) (x k : Int) (hx : x ∉ L.map (·.1)) : TabL (D.put (.int .i64 x) (.lit (.int .i64 k))) (L ++ [(x, k)]) := by
  refine ⟨fun y => ?_, fun y => ?_, ?_⟩
  · rw [kindL_snoc L x k y hx]
    by_cases hy : x = y
    · subst hy
      rw [if_pos rfl, atKey_put_same hT.isMap (isKeyI x)]
    · rw [if_neg hy, atKey_put_other (key_ne (fun e => hy e.symm)), h.at_]
  · by_cases hy : x = y
    · subst hy
      rw [has_put_same hT.isMap (isKeyI x)]; simp
    · rw [has_put_other (key_ne (fun e => hy e.symm)), h.has_, decide_eq_decide]
      have hy' : ¬ y = x := fun e => hy e.symm
      simp [hy']
  · rw [size_put hT, h.has_, decide_eq_false hx]
    simp [h.size_]
/-- A table at block p: its bound is 32, its map lies at block bm. -/
structure Tab (w : World) (p bm n : Nat) (L : List (Int × Int)) : Prop where
  blk : w.heap[p]? = some (.cells #[.int .i64 32, .map (some bm)] 130 (0, 0))
  own : ∃ D : DataW Unit, w.ownsMap Tryz.prog 3 (plainElem Tryz.prog 3) bm n D ∧ TabL D L
theorem ids_New (w : World) : Calls Tryz.prog 27 #[.int .i64 32] w fun e w' => e = .returned (.pointer (some ⟨w.heap.size + 1, 0, none⟩)) ∧ Tab w' (w.heap.size + 1) w.heap.size 0 [] ∧ Below w.heap.size w w' := by
  have hmm := @run_makeMap Tryz.prog
  go_enter Tryz.func27, Tryz.ntmps27
  go_wp2
  have hm : min (max (32 : Int) 1) 32 = 32 := by decide
  rw [hm]
  go_ret
  refine ⟨rfl, ⟨?_, .map [], ?_, TabL.nil⟩, by (repeat (first | (with_reducible exact Below.refl _ _) | ((with_reducible refine Below.alloc ?_ ?hB _); (case hB => (first | omega | (simp; done) | (simp; omega)))) | ((with_reducible refine Below.setCell ?_ ?hB _); (case hB => (first | omega | (simp; done) | (simp; omega)))) | (with_reducible refine Below.drew ?_) | ((with_reducible refine below_ext_of ?_ ?hB); (case hB => (first | omega | (simp; done) | (simp; omega)))) | ((with_reducible refine Below.trans ?_ (Below.mono (by assumption) ?hB)); (case hB => (first | omega | (simp; done) | (simp; omega))))))⟩
  · have := blk_new (w.alloc (.map #[] 0)) (.cells #[.int .i64 32, .map (some w.heap.size)] 130); rwa [World.size_alloc] at this
  · exact (World.ownsMap_made w Tryz.prog 3 (plainElem Tryz.prog 3)).alloc _
/-- The kind that is told, and nothing turned. -/
theorem ids_Kind (p bm n : Nat) (L : List (Int × Int)) (x : Int) (w : World) (h : Tab w p bm n L) (hx : (Lit.int .i64 x).wf = true) : Calls Tryz.prog 64 #[(.pointer (some ⟨p, 0, none⟩)), .int .i64 x] w fun e w' => e = .returned (.int .i64 (kindL L x)) ∧ w = w' := by
  obtain ⟨hb, D, hown, hL⟩ := h
  have c0 := (blk_cell hb 0).trans rfl
  have c1 := (blk_cell hb 1).trans rfl
  have hkey := keyOf_int_mk Tryz.underlying3 hx
  have HA := Lib.hid (hL.at_ x)
  clear hb hL
  go_enter Tryz.func64, Tryz.ntmps64
  go_wp2_with (first
    | (at_lookup; refine wpList_lookup_own_int _ rfl _ _ 128 rfl 3 3 .i64 kInt Tryz.underlying128 Tryz.underlying3 (zInt _) bm n D rfl hown _ _ rfl hkey ?_; intro c hat hwc; replace hat := Lib.hid hat)
    | go_in)
  go_ret
  have e := HA.out.symm.trans hat.out
  injection e with e
  injection e with _ e
  exact ⟨by rw [e]; rfl, rfl⟩
theorem ids_Free (p bm n : Nat) (L : List (Int × Int)) (w : World) (h : Tab w p bm n L) (hl : L.length ≤ 1000) : Calls Tryz.prog 128 #[(.pointer (some ⟨p, 0, none⟩))] w fun e w' => e = .returned (.int .i64 (32 - (L.length : Int))) ∧ Below w.heap.size w w' := by
  obtain ⟨hb, D, hown, hL⟩ := h
  have c0 := (blk_cell hb 0).trans rfl
  have c1 := (blk_cell hb 1).trans rfl
  have hlen := fun ty => hown.drew.len Tryz.underlying128 ty
  rw [hL.size_] at hlen
  clear hb hL
  go_enter Tryz.func128, Tryz.ntmps128
  go_wp2
  go_region
  all_goals
    go_wp2
    go_ret
    exact ⟨rfl, by (repeat (first | (with_reducible exact Below.refl _ _) | ((with_reducible refine Below.alloc ?_ ?hB _); (case hB => (first | omega | (simp; done) | (simp; omega)))) | ((with_reducible refine Below.setCell ?_ ?hB _); (case hB => (first | omega | (simp; done) | (simp; omega)))) | (with_reducible refine Below.drew ?_) | ((with_reducible refine below_ext_of ?_ ?hB); (case hB => (first | omega | (simp; done) | (simp; omega)))) | ((with_reducible refine Below.trans ?_ (Below.mono (by assumption) ?hB)); (case hB => (first | omega | (simp; done) | (simp; omega))))))⟩
theorem Tab.size {w : World} {p bm n : Nat} {L : List (Int × Int)} (h : Tab w p bm n L) : L.length ≤ n := by
  obtain ⟨D, hown, hL⟩ := h.own
  rw [← hL.size_]; exact hown.size_le
theorem Tab.below {w w1 : World} {p bm n : Nat} {L : List (Int × Int)} (h : Tab w p bm n L) (hb : Below w.heap.size w w1) : Tab w1 p bm n L := by
  obtain ⟨D, hown, hL⟩ := h.own
  refine ⟨(hb.block p (blk_lt h.blk)).trans h.blk, D, ?_, hL⟩
  exact hown.kept (row := none) ⟨hb.os, hb.tape, hb.output, hb.size, fun k hk _ => hb.block k hk⟩ (by simp)
theorem map_ne {w : World} {p bm n : Nat} {k : TypeId} {R : Value → Option (DataW Unit × List MemPlace)} {D : DataW Unit} {cs : Array Value} {t : TypeId} {fr : Nat × Nat} (h : w.ownsMap Tryz.prog k R bm n D) (hp : w.heap[p]? = some (.cells cs t fr)) : p ≠ bm := by
  obtain ⟨es, clock, _, _, hb, _⟩ := h.turned_refl
  intro e
  subst e
  rw [hp] at hb
  cases hb
theorem grown_below {w w1 : World} (h : Below w.heap.size w w1) (r : Option Nat) : w.grownBy w1 r := ⟨h.os, h.tape, h.output, h.size, fun k hk _ => h.block k hk⟩
def addE (L : List (Int × Int)) (x k : Int) : Int := if x < 1 ∨ 4294967295 < x ∨ k < 1 ∨ 8 < k then 1 else if kindL L x ≠ 0 then 6 else if L.length = 32 then 10 else 0
/-- No kind is 0. -/
def Kinds (L : List (Int × Int)) : Prop := ∀ e ∈ L, e.2 ≠ 0
theorem kindL_in {L : List (Int × Int)} (hk : Kinds L) (x : Int) : kindL L x = 0 ↔ x ∉ L.map (·.1) := by
  induction L with
  | nil => simp [kindL]
  | cons e L ih =>
    have ih' := ih (fun e he => hk e (List.mem_cons_of_mem _ he))
    simp only [kindL, List.map_cons, List.mem_cons, not_or]
    by_cases h1 : e.1 = x
    · rw [if_pos h1]
      have := hk e (List.mem_cons_self ..)
      simp [this, h1.symm]
    · rw [if_neg h1, ih']
      have h1' : ¬ x = e.1 := fun e => h1 e.symm
      simp [h1']
def AddT (w : World) (p bm n : Nat) (L : List (Int × Int)) (x k : Int) (e : Ending) (w' : World) : Prop := e = .returned (.int .i64 (addE L x k)) ∧ (if addE L x k = 0 then Tab w' p bm (n + 1) (L ++ [(x, k)]) else Tab w' p bm n L) ∧ w.grownBy w' (some bm)
theorem ids_Add (p bm n : Nat) (L : List (Int × Int)) (x k : Int) (w : World) (h : Tab w p bm n L) (hK : Kinds L) (hl : L.length ≤ 1000) (hn : n ≤ 100000) (hx : -9223372036854775808 ≤ x ∧ x ≤ 9223372036854775807) (hk : -9223372036854775808 ≤ k ∧ k ≤ 9223372036854775807) : Calls Tryz.prog 84 #[(.pointer (some ⟨p, 0, none⟩)), .int .i64 x, .int .i64 k] w (AddT w p bm n L x k) := by
  have hwx : (Lit.int .i64 x).wf = true := WalkArith.wf_i64 (by omega)
  have hwk : (Lit.int .i64 k).wf = true := WalkArith.wf_i64 (by omega)
  have hT0 : ∀ (e : Ending) (w' : World) (i : Int), e = .returned (.int .i64 i) → addE L x k = i → i ≠ 0 → Below w.heap.size w w' → AddT w p bm n L x k e w' := fun e w' i he hi h0 hb => by
    refine ⟨by rw [hi]; exact he, by rw [if_neg (by rw [hi]; exact h0)]; exact h.below hb, ⟨hb.os, hb.tape, hb.output, hb.size, fun j hj _ => hb.block j hj⟩⟩
  have HT := Lib.hid hT0
  have H := Lib.hid h
  by_cases hbad : x < 1 ∨ 4294967295 < x ∨ k < 1 ∨ 8 < k
  · have HE := Lib.hid (show addE L x k = 1 from by unfold addE; rw [if_pos hbad])
    by_cases h1 : x < 1
    · clear hbad h hT0
      go_enter Tryz.func84, Tryz.ntmps84
      go_wp2
      go_ret
      exact HT.out _ _ 1 rfl HE.out (by decide) (Below.refl _ _)
    · by_cases h2 : 4294967295 < x
      · clear hbad h hT0
        go_enter Tryz.func84, Tryz.ntmps84
        go_wp2
        go_ret
        exact HT.out _ _ 1 rfl HE.out (by decide) (Below.refl _ _)
      · by_cases h3 : k < 1
        · clear hbad h hT0
          go_enter Tryz.func84, Tryz.ntmps84
          go_wp2
          go_ret
          exact HT.out _ _ 1 rfl HE.out (by decide) (Below.refl _ _)
        · have h4 : 8 < k := by omega
          clear hbad h hT0
          go_enter Tryz.func84, Tryz.ntmps84
          go_wp2
          go_ret
          exact HT.out _ _ 1 rfl HE.out (by decide) (Below.refl _ _)
  · have h1 : 1 ≤ x := by omega
    have h2 : x ≤ 4294967295 := by omega
    have h3 : 1 ≤ k := by omega
    have h4 : k ≤ 8 := by omega
    have cK := ids_Kind p bm n L x w h hwx
    have cF := ids_Free p bm n L w h hl
    by_cases hk0 : kindL L x = 0
    · have hin := (kindL_in hK x).1 hk0
      rw [hk0] at cK
      by_cases hq : L.length = 32
      · have HE := Lib.hid (show addE L x k = 10 from by unfold addE; rw [if_neg hbad, if_neg (by rw [hk0]; decide), if_pos hq])
        rw [hq] at cF
        clear hbad h hT0 hk0 hin
        go_enter Tryz.func84, Tryz.ntmps84
        go_wp2_with (first | (go_at_call 64; (with_reducible refine (cK).mono ?_); rintro e w1 ⟨rfl, rfl⟩) | (go_at_call 128; (with_reducible refine (cF).mono ?_); rintro e w1 ⟨rfl, hb1⟩; obtain ⟨hc1, hf1⟩ := bcell hb1; have hz1 := hb1.size; (try simp only [World.size_alloc, World.size_setCell, World.size_drew] at hz1)))
        go_ret
        exact HT.out _ _ 10 rfl HE.out (by decide) (by (repeat (first | (with_reducible exact Below.refl _ _) | ((with_reducible refine Below.alloc ?_ ?hB _); (case hB => (first | omega | (simp; done) | (simp; omega)))) | ((with_reducible refine Below.setCell ?_ ?hB _); (case hB => (first | omega | (simp; done) | (simp; omega)))) | (with_reducible refine Below.drew ?_) | ((with_reducible refine below_ext_of ?_ ?hB); (case hB => (first | omega | (simp; done) | (simp; omega)))) | ((with_reducible refine Below.trans ?_ (Below.mono (by assumption) ?hB)); (case hB => (first | omega | (simp; done) | (simp; omega)))))))
      · have HE := Lib.hid (show addE L x k = 0 from by unfold addE; rw [if_neg hbad, if_neg (by rw [hk0]; decide), if_neg hq])
        obtain ⟨hb, D, hown, hL⟩ := h
        have hf0 : ((32 - (L.length : Int)) == 0) = false := by rw [beq_eq_false_iff_ne]; omega
        have hp := blk_lt hb
        have c1 := (blk_cell hb 1).trans rfl
        have hkey := keyOf_int_mk Tryz.underlying3 hwx
        have HB := Lib.hid hb
        have HL := Lib.hid (hL.put (hown.tidy kInt) x k hin)
        clear hb hL hbad hT0 hk0 hin
        go_enter Tryz.func84, Tryz.ntmps84
        go_wp2_with (first | (go_at_call 64; (with_reducible refine (cK).mono ?_); rintro e w1 ⟨rfl, rfl⟩) | ((go_at_call 128; (with_reducible refine (cF).mono ?_); rintro e w1 ⟨rfl, hb1⟩; obtain ⟨hc1, hf1⟩ := bcell hb1; have hz1 := hb1.size; (try simp only [World.size_alloc, World.size_setCell, World.size_drew] at hz1)); have hown1 := hown.kept (row := none) ⟨hb1.os, hb1.tape, hb1.output, hb1.size, fun j hj _ => hb1.block j hj⟩ (by simp)) | (at_mapUpdate; refine wpList_mapUpdate_in _ rfl _ _ _ 128 rfl 3 3 kInt Tryz.underlying128 _ bm n D rfl hown1 (by unfold maxLen; omega) _ _ _ rfl rfl hkey _ [] (plainElem_int Tryz.underlying3 hwk) ?_; intro w3 hown3 hturn3) | go_in)
        go_ret
        have hne := map_ne hown HB.out
        have hg : w.grownBy w3 (some bm) := (grown_below hb1 _).trans hturn3.grown
        refine ⟨by rw [HE.out]; rfl, ?_, hg⟩
        rw [if_pos HE.out]
        exact ⟨(hg.block p hp (fun e => by injection e with e; exact hne e)).trans HB.out, _, hown3, HL.out⟩
    · have HE := Lib.hid (show addE L x k = 6 from by unfold addE; rw [if_neg hbad, if_pos hk0])
      have hk1 : (kindL L x == 0) = false := by rw [beq_eq_false_iff_ne]; exact hk0
      generalize kindL L x = kk at *
      clear hbad h hT0
      go_enter Tryz.func84, Tryz.ntmps84
      go_wp2_with (first | (go_at_call 64; (with_reducible refine (cK).mono ?_); rintro e w1 ⟨rfl, rfl⟩))
      go_ret
      exact HT.out _ _ 6 rfl HE.out (by decide) (Below.refl _ _)
def findE (L : List (Int × Int)) (x k : Int) : Int := if kindL L x = 0 then 5 else if kindL L x = k then 0 else 9
theorem ids_Find (p bm n : Nat) (L : List (Int × Int)) (x k : Int) (w : World) (h : Tab w p bm n L) (hx : -9223372036854775808 ≤ x ∧ x ≤ 9223372036854775807) : Calls Tryz.prog 30 #[(.pointer (some ⟨p, 0, none⟩)), .int .i64 x, .int .i64 k] w fun e w' => e = .returned (.int .i64 (findE L x k)) ∧ w = w' := by
  have hwx : (Lit.int .i64 x).wf = true := WalkArith.wf_i64 (by omega)
  have cK := ids_Kind p bm n L x w h hwx
  unfold findE
  clear h
  by_cases h0 : kindL L x = 0
  · rw [h0] at cK ⊢
    clear h0
    go_enter Tryz.func30, Tryz.ntmps30
    go_wp2_with (first | (go_at_call 64; (with_reducible refine (cK).mono ?_); rintro e w1 ⟨rfl, rfl⟩))
    go_ret
    exact ⟨rfl, rfl⟩
  · rw [if_neg h0]
    have h1 : (kindL L x == 0) = false := by rw [beq_eq_false_iff_ne]; exact h0
    by_cases h2 : kindL L x = k
    · rw [if_pos h2]
      rw [h2] at cK h1
      clear h0 h2
      go_enter Tryz.func30, Tryz.ntmps30
      go_wp2_with (first | (go_at_call 64; (with_reducible refine (cK).mono ?_); rintro e w1 ⟨rfl, rfl⟩))
      go_ret
      exact ⟨rfl, rfl⟩
    · rw [if_neg h2]
      have h3 : (kindL L x == k) = false := by rw [beq_eq_false_iff_ne]; exact h2
      generalize kindL L x = kk at *
      clear h0 h2
      go_enter Tryz.func30, Tryz.ntmps30
      go_wp2_with (first | (go_at_call 64; (with_reducible refine (cK).mono ?_); rintro e w1 ⟨rfl, rfl⟩))
      go_ret
      exact ⟨rfl, rfl⟩
end Go.Proofs.YtbkhcdmmnlkhdaaGreat
