/- A sign put behind what a builder holds, and a sign told of, walked. -/
import Derived.Test.YtinnaiofgbjicaaDoorTitA
import Derived.Test.YtinnaiofgbjicaaDoorShelfR
import Derived.Test.YtinnaiofgbjicaaDoorReqP
import Derived.RangeFuncNested
import Derived.RangeFuncBound
import Derived.RangeFuncCalls
import Derived.RangeFuncLeaves
import Derived.Shelf.Abstract
import Derived.Shelf.RegionOpen
import Derived.WalkKit
import Derived.OwnWalkIn
import Derived.TacticsInMore
import Derived.LoopNIn
import Derived.LoopIn
namespace Go.Proofs.YtinnaiofgbjicaaDoor
open Go.RowKit Go.Proofs.YtinnaiofgbjicaaDoorW.PrintWords
set_option linter.unusedSimpArgs false
set_option linter.unusedVariables false
set_option maxRecDepth 1000000
theorem bld_size : (Tryd.prog.info? 146).map (·.size) = some 2 := by kernel_rfl
theorem bld_lies : liesAt Tryd.prog Tryd.prog.depth 146 (2 / Tryd.prog.cellsOf 146) 0 146 1 = true := by kernel_rfl
def CcP (B b : Nat) (bs : List Value) (w : World) (e : Ending) (w' : World) : Prop := e = .returned (.tuple #[]) ∧ Lib.BuilderAtF 146 5 B b (.pointer (some ⟨b, 0, none⟩)) bs w' ∧ Below B w w' ∧ Lib.OthersKept 5 (some b) w w'
set_option maxHeartbeats 2000000 in
theorem b_copyCheck (B b : Nat) (bs : List Value) (w : World) (h : Lib.IsBuilderF 146 5 B b bs w) : Calls Tryd.prog 124 #[.pointer (some ⟨b, 0, none⟩)] w (CcP B b bs w) := by
  obtain ⟨j, hj, hjs⟩ := Option.map_eq_some_iff.1 bld_size
  rcases h with h | h
  · have c0 := h.cell0
    have hf := h.frozen0
    have hsh := h.shape
    have HH := Lib.hid h
    clear h
    go_enter Tryd.func124, Tryd.ntmps124
    go_wp2
    rw [Lib.run_to_unsafe w ⟨b, 0, none⟩ Tryd.underlying144 Tryd.underlying174 hj (by rw [hjs]; decide) hsh (Nat.zero_lt_succ 1)]
    simp only [Result.andThen]
    rw [Oper.upon_value]
    go_wp2
    rw [run_callFunc_extern Tryd.func133 (by kernel_rfl) (by kernel_rfl) (by kernel_rfl) (e := Extern.AbiNoEscape.same) (by kernel_rfl)]
    rw [Lib.run_noEscape]
    simp only [Result.andThen]
    rw [Oper.upon_value]
    go_wp2
    rw [Lib.run_from_unsafe w ⟨b, 0, none⟩ Tryd.underlying174 Tryd.underlying144 hj hsh bld_lies]
    simp only [Result.andThen]
    rw [Oper.upon_value]
    go_wp2
    go_end0
    exact ⟨rfl, HH.out.used _, (Below.refl B w).setCell (p := ⟨b, 0, none⟩) HH.out.1 _, (Lib.OthersKept.refl _ _ w).setCell ⟨b, 0, none⟩ rfl _⟩
  · have c0 := h.cell0
    have HH := Lib.hid h
    clear h
    go_enter Tryd.func124, Tryd.ntmps124
    go_wp2
    rw [Lib.run_neq_ptr_same w _ Tryd.underlying144 hj]
    go_wp2
    go_end0
    exact ⟨rfl, HH.out, Below.refl B _, Lib.OthersKept.refl _ _ _⟩
def RuP (B b : Nat) (bs : List Value) (r : Int) (w : World) (e : Ending) (w' : World) : Prop := (∃ v, e = .returned v) ∧ Lib.IsBuilderF 146 5 B b (bs ++ Lib.runeCells r) w' ∧ Below B w w' ∧ Lib.OthersKept 5 (some b) w w'
set_option maxHeartbeats 2000000 in
theorem b_WriteRune (B b : Nat) (bs : List Value) (r : Int) (hr0 : -2147483648 ≤ r) (hr1 : r ≤ 2147483647) (w : World) (h : Lib.IsBuilderF 146 5 B b bs w) (hlen : bs.length + 4 ≤ 1000000) (hBw : B ≤ w.heap.size) : Calls Tryd.prog 112 #[.pointer (some ⟨b, 0, none⟩), .int .i32 r] w (RuP B b bs r w) := by
  have hk4 := Lib.runeCells_le r
  have cC := b_copyCheck B b bs w h
  unfold CcP at cC
  clear h
  go_enter Tryd.func112, Tryd.ntmps112
  go_wp2_with (first | (go_at_call 124; (with_reducible refine cC.mono ?_)))
  rintro e w1 ⟨rfl, h1, hb1, hk1⟩
  obtain ⟨hB, v, hbk, hown, hne⟩ := h1
  obtain ⟨ao, cap, rfl⟩ : ∃ ao cap, v = .slice ao bs.length cap := by
    rcases hown.2 with ⟨hv, h0⟩ | ⟨g, cap, cur, fz, hv, _⟩
    · exact ⟨none, 0, by rw [hv, h0]⟩
    · exact ⟨_, _, hv⟩
  have c0 : w1.cell? ⟨b, 0, none⟩ = some (.pointer (some ⟨b, 0, none⟩)) := by rw [Lib.cell_of_heap hbk]; rfl
  have c1 : w1.cell? ⟨b, 1, none⟩ = some (.slice ao bs.length cap) := by rw [Lib.cell_of_heap hbk]; rfl
  have hz1 := hb1.size
  have cA := Tryd.utf8_AppendRune_row B (.slice ao bs.length cap) bs.length bs r hr0 hr1 w1 hown (by omega) (by omega)
  go_wp2_with (first | (go_at_call 125; (with_reducible refine cA.mono ?_)))
  rintro e w2 ⟨v', rfl, hown', o, hgrow⟩
  have hlt : b < w1.heap.size := by
    rcases Nat.lt_or_ge b w1.heap.size with h' | h'
    · exact h'
    · simp [Array.getElem?_eq_none h'] at hbk
  have hb2 : w2.heap[b]? = some (.cells #[.pointer (some ⟨b, 0, none⟩), .slice ao bs.length cap] 146 (0, 0)) := by
    rw [hgrow.block b (by simp; omega) (fun e => hne e.symm), Lib.alloc_old w1 _ b hlt]
    exact hbk
  have d0 : w2.cell? ⟨b, 0, none⟩ = some (.pointer (some ⟨b, 0, none⟩)) := by rw [Lib.cell_of_heap hb2]; rfl
  have d1 : w2.cell? ⟨b, 1, none⟩ = some (.slice ao bs.length cap) := by rw [Lib.cell_of_heap hb2]; rfl
  have f1 : w2.frozen? ⟨b, 1, none⟩ = false := Lib.frozen_of_heap hb2 1
  obtain ⟨g, cap', rfl⟩ : ∃ g cap', v' = .slice (some ⟨g, 0, none⟩) (bs.length + (Lib.runeCells r).length) cap' := by
    rcases hown'.2 with ⟨_, h0⟩ | ⟨g, cap', cur, fz, hv, _⟩
    · omega
    · exact ⟨g, cap', hv⟩
  have HN := Lib.hid (And.intro hown' hgrow)
  have HO := Lib.hid hown
  clear hown' hgrow hown hne
  go_wp2
  go_ret2
  refine ⟨⟨_, rfl⟩, .inr ?_, ?_, ((hk1.alloc _).grown HN.out.2 (Lib.ownsRowF_kind (HO.out.alloc _))).setCell ⟨b, 1, none⟩ rfl _⟩
  · exact Lib.BuilderAtF.put (T := 146) (e := 5) hB hb2 (bs' := bs ++ Lib.runeCells r) (by simpa using HN.out.1) (by decide)
  · exact ((hb1.alloc (by omega) _).grown HN.out.2 (by simp; omega) (fun k hk => (HO.out.lt k hk).1)).setCell (p := ⟨b, 1, none⟩) hB _
theorem t_odd (r : Nat) (w : World) : Calls Tryd.prog 110 #[.int .i32 (r : Int)] w fun e w' => e = .returned (.bool (oddN r)) ∧ Below w.heap.size w w' := by
  unfold oddN
  go_enter Tryd.func110, Tryd.ntmps110
  go_wp2
  all_goals (go_ret; refine ⟨congrArg (fun x => Ending.returned (.bool x)) ?_, by (repeat (first | (with_reducible exact Below.refl _ _) | ((with_reducible refine Below.alloc ?_ ?hB _); (case hB => (first | omega | (simp; done) | (simp; omega)))) | ((with_reducible refine Below.setCell ?_ ?hB _); (case hB => (first | omega | (simp; done) | (simp; omega)))) | (with_reducible refine Below.drew ?_) | ((with_reducible refine below_ext_of ?_ ?hB); (case hB => (first | omega | (simp; done) | (simp; omega)))) | ((with_reducible refine Below.trans ?_ (Below.mono (by assumption) ?hB)); (case hB => (first | omega | (simp; done) | (simp; omega))))))⟩; (first | rfl | (rw [Bool.eq_iff_iff]; simp []; done) | (rw [Bool.eq_iff_iff]; simp []; omega)))
theorem t_broken (s : ByteArray) (w : World) (hT : Lib.Utf8Tabs 2 3 w) : Calls Tryd.prog 111 #[.string s] w fun e w' => e = .returned (.bool (brk (Lib.decodeGo s))) ∧ Below w.heap.size w w' := by
  have cD := Tryd.utf8_DecodeRuneInString s w hT
  unfold brk
  generalize Lib.decodeGo s = p at *
  obtain ⟨r, n⟩ := p
  simp only at cD ⊢
  clear hT
  go_enter Tryd.func111, Tryd.ntmps111
  go_wp2_with (first | (go_at_call 123; (with_reducible refine (cD).mono ?_); rintro e w1 ⟨rfl, hb1⟩; obtain ⟨hc1, hf1⟩ := bcell hb1; have hz1 := hb1.size; (try simp only [World.size_alloc, World.size_setCell, World.size_drew] at hz1)))
  all_goals (go_ret; refine ⟨congrArg (fun x => Ending.returned (.bool x)) ?_, by (repeat (first | (with_reducible exact Below.refl _ _) | ((with_reducible refine Below.alloc ?_ ?hB _); (case hB => (first | omega | (simp; done) | (simp; omega)))) | ((with_reducible refine Below.setCell ?_ ?hB _); (case hB => (first | omega | (simp; done) | (simp; omega)))) | (with_reducible refine Below.drew ?_) | ((with_reducible refine below_ext_of ?_ ?hB); (case hB => (first | omega | (simp; done) | (simp; omega)))) | ((with_reducible refine Below.trans ?_ (Below.mono (by assumption) ?hB)); (case hB => (first | omega | (simp; done) | (simp; omega))))))⟩; (first | rfl | (rw [Bool.eq_iff_iff]; simp []; done) | (rw [Bool.eq_iff_iff]; simp []; omega)))
theorem t_Signs (s : ByteArray) (w : World) : Calls Tryd.prog 109 #[.string s] w fun e w' => e = .returned (.func (.func 122) #[] #[.pointer (some ⟨w.heap.size, 0, none⟩)]) ∧ w' = w.alloc (.cells #[.string s] 9) := by
  go_enter Tryd.func109, Tryd.ntmps109
  go_wp2
  go_ret
  exact ⟨rfl, rfl⟩
end Go.Proofs.YtinnaiofgbjicaaDoor
namespace Go.Proofs.YtinnaiofgbjicaaDoor
open Go.RowKit Go.Shelf Go.Proofs.YtinnaiofgbjicaaDoorW.PrintWords
set_option linter.unusedSimpArgs false
set_option linter.unusedVariables false
set_option maxRecDepth 1000000
attribute [local go_sem] Oper.semAt_some
theorem posF_fuel (s : ByteArray) : ∀ (f g j : Nat), s.size - j ≤ f → s.size - j ≤ g → posF f s j = posF g s j
  | 0, g, j, h, _ => by rw [posF_end 0 s j (by omega), posF_end g s j (by omega)]
  | f + 1, 0, j, _, h => by rw [posF_end 0 s j (by omega), posF_end (f + 1) s j (by omega)]
  | f + 1, g + 1, j, h, h' => by
    have hp := sg_pos s j
    simp only [posF]
    split
    · rw [posF_fuel s f g (j + (sg s j).2) (by omega) (by omega)]
    · rfl
/-- The signs from a place on. -/
def tlS (s : ByteArray) (j : Nat) : List Nat := posF s.size s j
theorem tlS_cons {s : ByteArray} {j : Nat} (h : j < s.size) : tlS s j = j :: tlS s (j + (sg s j).2) := by
  have hp := sg_pos s j
  unfold tlS
  rw [posF_fuel s s.size (s.size - j - 1 + 1) j (by omega) (by omega)]
  simp only [posF, if_pos h]
  rw [posF_fuel s (s.size - j - 1) s.size _ (by omega) (by omega)]
theorem tlS_end {s : ByteArray} {j : Nat} (h : ¬ j < s.size) : tlS s j = [] := posF_end _ _ _ h
/-- A place of a text. -/
abbrev Al (s : ByteArray) : Type := { i : Nat // i < s.size }
abbrev encS (s : ByteArray) (x : Al s) : Array Value := #[.int .i64 ((x.1 : Nat) : Int), .int .i32 (((sg s x.1).1 : Nat) : Int)]
def IterR (W : World) (s : ByteArray) (J : List (Al s) → World → Prop) (wr : World) : Prop := ∃ (pre : List (Al s)) (j : Nat), poss s = pre.map (·.1) ++ tlS s j ∧ wr.heap[W.heap.size]? = some (.stringIter s j) ∧ J pre wr
theorem grown_iterAt (w : World) (k : Nat) (s : ByteArray) (p : Nat) : w.grownBy (w.iterAt k s p) (some k) := grownBy_putObj' w k (.stringIter s p)
set_option maxHeartbeats 4000000 in
theorem signs_stops (F : Fence) (n : Nat) (hF : F.fn 122) (hro : F.round = none) (hn : 1 ≤ n) (B : Nat) (s : ByteArray) (w : World) (hBw : B < w.heap.size) (hB : w.cell? ⟨B, 0, none⟩ = some (.string s)) :
    SeqStopsK F n Tryd.prog 122 #[.pointer (some ⟨B, 0, none⟩)] (encS s) KeepsWalks (fun xs => xs.map (·.1) = poss s) (fun pre => ∃ t, poss s = pre.map (·.1) ++ t) (poss s).length w := fun l J Jx W hW hJ hJx hY h0 => by
  have hB' : W.cell? ⟨B, 0, none⟩ = some (.string s) := (hW.cell (p := ⟨B, 0, none⟩) hBw).trans hB
  have HY := Lib.hid hY
  have HJ := Lib.hid hJ
  clear hY hJ hJx hW
  (refine callsIn_of_wp Tryd.func122 rfl hF ?_ hro; simp only [Tryd.ntmps122, List.size_toArray, List.length_cons, List.length_nil, Nat.reduceAdd, Nat.reduceSub, Array.replicate_succ, Array.replicate_zero, List.push_toArray, List.append_toArray, List.nil_append, List.cons_append])
  gi_wp2
  gi_loopw [] (fun wr => IterR W s J wr) (fun wr => s.size - wr.iterPos W.heap.size)
  case atStart =>
    refine ⟨[], 0, rfl, iter_heap' _ _ _ rfl, ?_⟩
    simp only [World.iter]
    exact HJ.out _ _ _ none h0 (World.grownBy_alloc _ _ _) (fun r e => by cases e)
  case round =>
    obtain ⟨pre, j, hp, hk, hJs⟩ := hrel
    by_cases hlt : j < s.size
    · have hnx := fun ty => Lib.run_next_any_at (P := Tryd.prog) wr W.heap.size s j ty hk hlt
      have hJ1 : J pre (wr.iterAt W.heap.size s (j + (sg s j).2)) := HJ.out _ _ _ (some W.heap.size) hJs (grown_iterAt _ _ _ _) (fun r e => by cases e; exact ⟨Nat.le_refl _, _, hk, rfl⟩)
      have hlen : pre.length < (poss s).length := by rw [hp, tlS_cons hlt]; simp
      obtain ⟨fn, tmps, assign, body, hy, hR⟩ := HY.out pre ⟨j, hlt⟩ _ hJ1 hlen
      dsimp only [encS] at hy
      have hk1 := Lib.iterAt_heap wr W.heap.size s j (j + (sg s j).2) hk
      unfold sg at hy hk1 hR
      have HP := Lib.hid hp
      have HK := Lib.hid hk
      have HK1 := Lib.hid hk1
      clear hp hk hJ1 hk1
      gi_wp2
      refine hR.mono ?_
      rintro e W3 (⟨rfl, hJ3, hk3⟩ | ⟨rfl, hJx3⟩)
      · gi_wp2
        go_roundw
        case rel => exact ⟨pre ++ [⟨j, hlt⟩], j + (sg s j).2, by rw [HP.out, tlS_cons hlt]; simp, hk3.same _ _ HK1.out rfl, hJ3⟩
        case measure =>
          have h1 := hk3.same _ _ HK1.out rfl
          have h2 := HK.out
          have h3 := sg_pos s j
          unfold sg at h3
          simp only [World.iterPos, h1, h2]; omega
      · gi_wp2
        refine bodyPost_ret (results_none rfl _ _ _) rfl ?_
        exact ⟨⟨_, rfl⟩, .inr ⟨pre ++ [⟨j, hlt⟩], ⟨tlS s (j + (sg s j).2), by rw [HP.out, tlS_cons hlt]; simp⟩, hJx3⟩⟩
    · have hnx := fun ty => Lib.run_next_end_at (P := Tryd.prog) wr W.heap.size s j ty hk hlt
      gi_wp2
      go_end0
      exact ⟨⟨_, rfl⟩, .inl ⟨pre, by rw [hp, tlS_end hlt]; simp, hJs⟩⟩
end Go.Proofs.YtinnaiofgbjicaaDoor
namespace Go.Proofs.YtinnaiofgbjicaaDoor
open Go.RowKit Go.Shelf Go.Proofs.YtinnaiofgbjicaaDoorW.PrintWords
set_option linter.unusedSimpArgs false
set_option linter.unusedVariables false
set_option maxRecDepth 1000000
theorem bldAt_same {A A' : World} {B b : Nat} {p : Value} {bs : List Value} (hs : ∀ k o, A.heap[k]? = some o → (k = b ∨ ∃ c fz, o = .cells c 5 fz) → A'.heap[k]? = some o) (h : Lib.BuilderAtF 146 5 B b p bs A) : Lib.BuilderAtF 146 5 B b p bs A' := by
  obtain ⟨hB, v, hb, hown, hne⟩ := h
  refine ⟨hB, v, hs _ _ hb (.inl rfl), ⟨hown.1, ?_⟩, hne⟩
  rcases hown.2 with hn | ⟨g, cap, cur, fz, hv, hbg, hgg, rest⟩
  · exact .inl hn
  · exact .inr ⟨g, cap, cur, fz, hv, hbg, hs _ _ hgg (.inr ⟨_, _, rfl⟩), rest⟩
theorem bld_same {A A' : World} {B b : Nat} {bs : List Value} (hs : ∀ k o, A.heap[k]? = some o → (k = b ∨ ∃ c fz, o = .cells c 5 fz) → A'.heap[k]? = some o) (h : Lib.IsBuilderF 146 5 B b bs A) : Lib.IsBuilderF 146 5 B b bs A' :=
  h.elim (fun h => .inl (bldAt_same hs h)) (fun h => .inr (bldAt_same hs h))
theorem bld_below {A A' : World} {B b : Nat} {bs : List Value} (h : Lib.IsBuilderF 146 5 B b bs A) (hb : Below A.heap.size A A') : Lib.IsBuilderF 146 5 B b bs A' :=
  bld_same (fun k o ho _ => (hb.block k (Array.getElem?_eq_some_iff.1 ho).1).trans ho) h
theorem bld_set {A : World} {B b : Nat} {bs : List Value} (h : Lib.IsBuilderF 146 5 B b bs A) (a : Addr) (v : Value) (hne : a.block ≠ b) {c : Array Value} {t : TypeId} {fz : Nat × Nat} (hc : A.heap[a.block]? = some (.cells c t fz)) (ht : t ≠ 5) : Lib.IsBuilderF 146 5 B b bs (A.setCell a v) :=
  bld_same (fun k o ho hk => by
    rw [heap_setCell_other _ _ _ _ (fun e => ?_)]
    · exact ho
    · rcases hk with rfl | ⟨c', fz', rfl⟩
      · exact hne e.symm
      · rw [e, hc] at ho; injection ho with ho; injection ho with _ h2 _; exact ht h2) h
theorem bld_ne {A : World} {B b k : Nat} {bs : List Value} (h : Lib.IsBuilderF 146 5 B b bs A) : ∃ c fz, A.heap[b]? = some (.cells c 146 fz) :=
  h.elim (fun h => by obtain ⟨_, v, hb, _⟩ := h; exact ⟨_, _, hb⟩) (fun h => by obtain ⟨_, v, hb, _⟩ := h; exact ⟨_, _, hb⟩)
theorem ko_below {A A' : World} (hb : Below A.heap.size A A') : KeepsOthers A A' := ⟨hb.size, fun k o ho _ => (hb.block k (Array.getElem?_eq_some_iff.1 ho).1).trans ho⟩
theorem ko_others {A A' : World} {b : Nat} (hk : Lib.OthersKept 5 (some b) A A') (hz : A.heap.size ≤ A'.heap.size) {c : Array Value} {t : TypeId} {fz : Nat × Nat} (hc : A.heap[b]? = some (.cells c t fz)) : KeepsOthers A A' :=
  ⟨hz, fun k o ho h => hk k o ho (fun e => by injection e with e; subst e; rw [hc] at ho; injection ho with ho; subst ho; cases h) (fun c fz e => by subst e; cases h)⟩
theorem others_cells {A A' : World} {b k : Nat} (hk : Lib.OthersKept 5 (some b) A A') (hne : k ≠ b) {c : Array Value} {t : TypeId} {fz : Nat × Nat} (h : A.heap[k]? = some (.cells c t fz)) (ht : t ≠ 5) : A'.heap[k]? = some (.cells c t fz) :=
  hk k _ h (fun e => by injection e with e; exact hne e) (fun c fz e => by injection e with _ h2 _; exact ht h2)
theorem outL_snoc (s : ByteArray) (l : List Nat) (i : Nat) : Lib.byteCells (outL s (l ++ [i])) = Lib.byteCells (outL s l) ++ Lib.runeCells (outR s i) := by
  rw [show outL s (l ++ [i]) = outL s l ++ Lib.encodeRune (outR s i) by simp [outL], Lib.byteCells_append, Lib.byteCells_encodeRune]
theorem extract_get {s : ByteArray} {i : Nat} (k : Nat) : (s.extract i s.size).get! k = s.get! (i + k) := by
  have hd : (s.extract i s.size).data = s.data.extract i s.data.size := by simp [ByteArray.data_extract]
  have hsz : (s.extract i s.size).size = s.size - i := by simp [ByteArray.size_extract]
  by_cases h : i + k < s.size
  · obtain ⟨x, h1, h2⟩ := get_list h
    have h' : k < (s.extract i s.size).size := by omega
    obtain ⟨y, h3, h4⟩ := get_list h'
    rw [h2, h4]
    rw [hd] at h3
    simp only [Array.toList_extract, List.extract_eq_take_drop, List.getElem?_take, List.getElem?_drop] at h3
    rw [h1] at h3
    split at h3
    · exact (Option.some.inj h3).symm
    · cases h3
  · rw [get_out h, get_out (by omega)]
theorem decode_ext {s : ByteArray} {i : Nat} (h : i < s.size) : Lib.decodeGo (s.extract i s.size) = sg s i := by
  have hsz : (s.extract i s.size).size = s.size - i := by simp [ByteArray.size_extract]
  unfold Lib.decodeGo sg
  rw [if_neg (by omega), Lib.decode_at, Lib.decode_at, hsz]
  simp only [extract_get, Nat.sub_zero, Nat.zero_add, Nat.add_zero]
theorem sg_le (s : ByteArray) (i : Nat) : (sg s i).1 ≤ 1114111 := by
  unfold sg
  rw [Lib.decode_at]
  have := UInt8.toNat_lt (s.get! i)
  unfold Lib.decodeN
  repeat' split
  all_goals (simp only; omega)
theorem outR_bd (s : ByteArray) (i : Nat) : -2147483648 ≤ outR s i ∧ outR s i ≤ 2147483647 := by
  have := sg_le s i
  unfold outR; split <;> omega
end Go.Proofs.YtinnaiofgbjicaaDoor
