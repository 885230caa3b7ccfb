/- The title of a text, walked. -/
import Derived.Test.YtinnaiofgbjicaaDoorTitE
namespace Go.Proofs.YtinnaiofgbjicaaDoor
open Go.RowKit Go.Shelf Go.Proofs.YtinnaiofgbjicaaDoorW.PrintWords
set_option linter.unusedSimpArgs false
set_option linter.unusedVariables false
set_option maxRecDepth 1000000
attribute [local go_sem] Oper.semAt_some
theorem turn_heap {A A' : World} {row : Option Nat} {k : Nat} {o : Obj} (hg : A.grownBy A' row) (hr : ∀ r, row = some r → ∃ o : Obj, A.heap[r]? = some o ∧ o.isCells = false) (h : A.heap[k]? = some o) (ho : o.isCells = true) : A'.heap[k]? = some o :=
  (hg.block k (Array.getElem?_eq_some_iff.1 h).1 (fun e => by obtain ⟨o', h1, h2⟩ := hr k e.symm; rw [h] at h1; cases h1; rw [ho] at h2; cases h2)).trans h
theorem bldAt_turn {A A' : World} {row : Option Nat} {B b : Nat} {p : Value} {bs : List Value} (hg : A.grownBy A' row) (hr : ∀ r, row = some r → ∃ o : Obj, A.heap[r]? = some o ∧ o.isCells = false) (h : Lib.BuilderAtF 146 5 B b p bs A) : Lib.BuilderAtF 146 5 B b p bs A' := by
  obtain ⟨hB, v, hb, hown, hne⟩ := h
  refine ⟨hB, v, turn_heap hg hr hb rfl, ⟨hown.1, ?_⟩, hne⟩
  rcases hown.2 with hn | ⟨g, cap, cur, fz, hv, hbg, hgg, rest⟩
  · exact .inl hn
  · exact .inr ⟨g, cap, cur, fz, hv, hbg, turn_heap hg hr hgg rfl, rest⟩
theorem bld_turn {A A' : World} {row : Option Nat} {B b : Nat} {bs : List Value} (hg : A.grownBy A' row) (hr : ∀ r, row = some r → ∃ o : Obj, A.heap[r]? = some o ∧ o.isCells = false) (h : Lib.IsBuilderF 146 5 B b bs A) : Lib.IsBuilderF 146 5 B b bs A' :=
  h.elim (fun h => .inl (bldAt_turn hg hr h)) (fun h => .inr (bldAt_turn hg hr h))
structure ClI (s : ByteArray) (w : World) (pre : List (Al s)) (W : World) : Prop where
  str : W.heap[w.heap.size]? = some (.cells #[.string s] 9 (0, 0))
  num : W.heap[w.heap.size + 2]? = some (.cells #[.int .i64 (pre.length : Nat)] 3 (0, 0))
  bld : Lib.IsBuilderF 146 5 w.heap.size (w.heap.size + 1) (Lib.byteCells (outL s (pre.map (·.1)))) W
  few : pre.length ≤ 64
  bel : Below w.heap.size w W
structure ClX (s : ByteArray) (w : World) (pre : List (Al s)) (W : World) : Prop where
  bld : Lib.IsBuilderF 146 5 w.heap.size (w.heap.size + 1) (Lib.byteCells (outL s ((pre.map (·.1)).take 64))) W
  len : pre.length = 65
  bel : Below w.heap.size w W
theorem clI_own (s : ByteArray) (w : World) {B : Nat} (hB : w.heap.size ≤ B) : OwnFrom B (ClI s w) := fun pre A A' row h hg hr =>
  have hr' := fun r e => (hr r e).2
  ⟨turn_heap hg hr' h.str rfl, turn_heap hg hr' h.num rfl, bld_turn hg hr' h.bld, h.few, h.bel.grown hg h.bel.size (fun k e => Nat.le_trans hB (hr k e).1)⟩
theorem clX_own (s : ByteArray) (w : World) {B : Nat} (hB : w.heap.size ≤ B) : OwnFrom B (ClX s w) := fun pre A A' row h hg hr =>
  have hr' := fun r e => (hr r e).2
  ⟨bld_turn hg hr' h.bld, h.len, h.bel.grown hg h.bel.size (fun k e => Nat.le_trans hB (hr k e).1)⟩
theorem bld_new (A : World) (b : Nat) (h : A.heap.size = b) {B : Nat} (hB : B ≤ b) : Lib.IsBuilderF 146 5 B b [] (A.alloc (.cells #[.pointer none, .slice none 0 0] 146)) :=
  .inl ⟨hB, .slice none 0 0, by subst h; exact heap_alloc_new _ _, ⟨rfl, .inl ⟨rfl, rfl⟩⟩, by simp [Value.ownBlock]⟩
theorem t64 {s : ByteArray} {pre : List (Al s)} {x : Al s} (h : pre.length = 64) : ((pre ++ [x]).map (·.1)).take 64 = pre.map (·.1) := by
  rw [List.map_append, List.take_append_of_le_length (by simp; omega), List.take_of_length_le (by simp; omega)]
set_option maxHeartbeats 4000000 in
theorem t_Clean (s : ByteArray) (w : World) (hT : Lib.Utf8Tabs 2 3 w) (hs : s.size ≤ 1000000) : Calls Tryd.prog 100 #[.string s] w fun e w' => e = .returned (.string (cleanP s)) ∧ Below w.heap.size w w' := by
  refine (callsIn_wide (n := 3)).1 ?_
  refine callsIn_of_wp_marks Tryd.func100 rfl trivial ?_ rfl
  simp only [Tryd.ntmps100, List.size_toArray, List.length_cons, List.length_nil, Nat.reduceAdd, Nat.reduceSub, Array.replicate_succ, Array.replicate_zero, List.push_toArray, List.append_toArray, List.nil_append, List.cons_append]
  gi_wp2_with (refine ⟨trivial, ?_⟩; gi_at_call 109; refine (callsIn_wide.2 (t_Signs s _)).mono ?_; rintro e w' ⟨rfl, rfl⟩)
  have hb0 : Below w.heap.size w ((((w.alloc (.cells #[.string s] 9)).alloc (.cells #[.pointer none, .slice none 0 0] 146)).alloc (.cells #[.int .i64 0] 3)).alloc (.cells #[.string s] 9)) := by (repeat (first | (with_reducible exact Below.refl _ _) | ((with_reducible refine Below.alloc ?_ ?hB _); (case hB => (first | omega | (simp; done) | (simp; omega)))) | ((with_reducible refine Below.setCell ?_ ?hB _); (case hB => (first | omega | (simp; done) | (simp; omega)))) | (with_reducible refine Below.drew ?_) | ((with_reducible refine below_ext_of ?_ ?hB); (case hB => (first | omega | (simp; done) | (simp; omega)))) | ((with_reducible refine Below.trans ?_ (Below.mono (by assumption) ?hB)); (case hB => (first | omega | (simp; done) | (simp; omega))))))
  have hcs : ((((w.alloc (.cells #[.string s] 9)).alloc (.cells #[.pointer none, .slice none 0 0] 146)).alloc (.cells #[.int .i64 0] 3)).alloc (.cells #[.string s] 9)).cell? ⟨w.heap.size + 1 + 1 + 1, 0, none⟩ = some (.string s) := by go_simp
  refine wpIn_rangeFunc_ownF rfl (by omega) (gf := 122) (lb := #[.pointer (some ⟨w.heap.size + 1 + 1 + 1, 0, none⟩)]) rfl trivial (enters_of Tryd.func122 (by kernel_rfl) rfl)
    (signs_stops Fence.wide (3 - 1) trivial rfl (by omega) (w.heap.size + 1 + 1 + 1) s ((((w.alloc (.cells #[.string s] 9)).alloc (.cells #[.pointer none, .slice none 0 0] 146)).alloc (.cells #[.int .i64 0] 3)).alloc (.cells #[.string s] 9)) (by simp) hcs) walksK_t walksK_b (Below.refl _ _) (fun _ => rfl)
    (ClI s w) (fun c pre W => c = .exit 0 ∧ ClX s w pre W) (clI_own s w (by simp; omega)) (fun c => fun pre A A' row h hg hr => ⟨h.1, clX_own s w (by simp; omega) pre A A' row h.2 hg hr⟩)
    ⟨?i0, ?i1, ?i2, by simp, hb0⟩
    (fun x => { tmps := #[.string s, .pointer (some ⟨w.heap.size, 0, none⟩), .string { data := #[] }, .pointer (some ⟨w.heap.size + 1, 0, none⟩), .pointer (some ⟨w.heap.size + 1 + 1, 0, none⟩), .int .i64 ((x.1 : Nat) : Int), .int .i32 (((sg s x.1).1 : Nat) : Int), .string s, .func (.func 122) #[] #[.pointer (some ⟨w.heap.size + 1 + 1 + 1, 0, none⟩)], .int .i64 ((x.1 : Nat) : Int), .int .i32 (((sg s x.1).1 : Nat) : Int), undef, undef, undef, undef, undef, undef, undef, undef, undef, undef, undef, undef, undef, undef, undef], defers := [] }) ?assign ?body ?done ?stop
  case i0 => exact blk_alloc (blk_alloc (blk_alloc (blk_new _ _) _) _) _
  case i1 =>
    show ((((w.alloc (.cells #[.string s] 9)).alloc (.cells #[.pointer none, .slice none 0 0] 146)).alloc (.cells #[.int .i64 0] 3)).alloc (.cells #[.string s] 9)).heap[w.heap.size + 2]? = some (.cells #[.int .i64 0] 3 (0, 0))
    exact blk_alloc (by have := blk_new ((w.alloc (.cells #[.string s] 9)).alloc (.cells #[.pointer none, .slice none 0 0] 146)) (.cells #[.int .i64 0] 3); simpa only [World.size_alloc, Nat.add_assoc, Nat.reduceAdd] using this) _
  case i2 => exact ((bld_new _ _ (by simp) (by omega)).alloc _).alloc _
  case assign =>
    intro l x W K hK
    gi_wp2
    exact hK
  case body =>
    intro l pre x W hI hlt
    have hO := outR_bd s x.1
    have cO := fun w => t_odd (sg s x.1).1 w
    have cB := fun w1 (hb : Below W.heap.size W w1) => t_broken (s.extract x.1 s.size) w1 (Utf8Tabs_below hT (hI.bel.trans (hb.mono hI.bel.size)))
    rw [decode_ext x.2] at cB
    have hbl : (Lib.byteCells (outL s (pre.map (·.1)))).length ≤ 256 := by
      have h1 := outL_len s (pre.map (·.1))
      have h2 := hI.few
      rw [List.length_map] at h1
      simp only [Lib.byteCells, List.length_map]; omega
    have cR := fun w3 (h : Lib.IsBuilderF 146 5 w.heap.size (w.heap.size + 1) (Lib.byteCells (outL s (pre.map (·.1)))) w3) (hz : w.heap.size ≤ w3.heap.size) => b_WriteRune w.heap.size (w.heap.size + 1) (Lib.byteCells (outL s (pre.map (·.1)))) (outR s x.1) hO.1 hO.2 w3 h (by omega) hz
    unfold RuP at cR
    have c0 := (blk_cell hI.str 0).trans rfl
    have c2 : W.cell? ⟨w.heap.size + 1 + 1, 0, none⟩ = some (.int .i64 (pre.length : Nat)) := (blk_cell hI.num 0).trans rfl
    have f2 : W.frozen? ⟨w.heap.size + 1 + 1, 0, none⟩ = false := blk_frozen hI.num 0
    have HBL := Lib.hid hI.bld
    have hxs := x.2
    have hfew := hI.few
    have hz0 : w.heap.size + 2 < W.heap.size := (Array.getElem?_eq_some_iff.1 hI.num).1
    obtain ⟨n, hn⟩ : ∃ n, n = pre.length := ⟨_, rfl⟩
    rw [← hn] at c2 hfew
    have HI := Lib.hid hI
    have HN := Lib.hid hn
    have HL := Lib.hid hlt
    have HOR := Lib.hid (show outR s x.1 = if (oddN (sg s x.1).1 || brk (sg s x.1)) = true then 63 else ((sg s x.1).1 : Int) from rfl)
    have HT := Lib.hid hT
    clear hI hn hlt hT hO hbl hcs hb0
    generalize hbs : Lib.byteCells (outL s (pre.map (·.1))) = bs at *
    replace hbs := Lib.hid hbs
    have HBS := hbs
    clear hbs
    cases ho : oddN (sg s x.1).1
    · rw [ho] at cO
      cases hk : brk (sg s x.1)
      · rw [hk] at cB
        have HR := Lib.hid (show outR s x.1 = ((sg s x.1).1 : Int) from by rw [HOR.out, ho, hk]; rfl)
        rw [HR.out] at cR
        clear ho hk
        by_cases h64 : n = 64
        · subst h64
          gi_wp2_with (first | (refine ⟨trivial, ?_⟩; gi_at_call 110; (with_reducible refine (CallsIn.inRound l (callsIn_wide.2 (cO _))).mono ?_); rintro e w1 ⟨rfl, hb1⟩; obtain ⟨hc1, hf1⟩ := bcell hb1; have hz1 := hb1.size) | (refine ⟨trivial, ?_⟩; gi_at_call 111; (with_reducible refine (CallsIn.inRound l (callsIn_wide.2 (cB _ ?_))).mono ?_); (focus ((repeat (first | (with_reducible exact Below.refl _ _) | ((with_reducible refine Below.alloc ?_ ?hB _); (case hB => (first | omega | (simp; done) | (simp; omega)))) | ((with_reducible refine Below.setCell ?_ ?hB _); (case hB => (first | omega | (simp; done) | (simp; omega)))) | (with_reducible refine Below.drew ?_) | ((with_reducible refine below_ext_of ?_ ?hB); (case hB => (first | omega | (simp; done) | (simp; omega)))) | ((with_reducible refine Below.trans ?_ (Below.mono (by assumption) ?hB)); (case hB => (first | omega | (simp; done) | (simp; omega)))))); done)); rintro e w2 ⟨rfl, hb2⟩; obtain ⟨hc2, hf2⟩ := bcell hb2; have hz2 := hb2.size))
          (have hWx : Below W.heap.size W w2 := (by (repeat (first | (with_reducible exact Below.refl _ _) | ((with_reducible refine Below.alloc ?_ ?hB _); (case hB => (first | omega | (simp; done) | (simp; omega)))) | ((with_reducible refine Below.setCell ?_ ?hB _); (case hB => (first | omega | (simp; done) | (simp; omega)))) | (with_reducible refine Below.drew ?_) | ((with_reducible refine below_ext_of ?_ ?hB); (case hB => (first | omega | (simp; done) | (simp; omega)))) | ((with_reducible refine Below.trans ?_ (Below.mono (by assumption) ?hB)); (case hB => (first | omega | (simp; done) | (simp; omega))))))); exact ⟨(ko_below hWx).trans (KeepsOthers.setCell _ _ _), rfl, ⟨by rw [t64 HN.out.symm, HBS.out]; exact bld_set (bld_below HBL.out hWx) _ _ (by simp) ((hWx.block _ hz0).trans HI.out.num) (by decide), by rw [List.length_append, ← HN.out]; rfl, (HI.out.bel.trans (hWx.mono HI.out.bel.size)).setCell (show w.heap.size ≤ w.heap.size + 1 + 1 from by omega) _⟩⟩)
        · have h63 : (n : Int) ≤ 63 := by omega
          gi_wp2_with (first | (refine ⟨trivial, ?_⟩; gi_at_call 110; (with_reducible refine (CallsIn.inRound l (callsIn_wide.2 (cO _))).mono ?_); rintro e w1 ⟨rfl, hb1⟩; obtain ⟨hc1, hf1⟩ := bcell hb1; have hz1 := hb1.size) | (refine ⟨trivial, ?_⟩; gi_at_call 111; (with_reducible refine (CallsIn.inRound l (callsIn_wide.2 (cB _ ?_))).mono ?_); (focus ((repeat (first | (with_reducible exact Below.refl _ _) | ((with_reducible refine Below.alloc ?_ ?hB _); (case hB => (first | omega | (simp; done) | (simp; omega)))) | ((with_reducible refine Below.setCell ?_ ?hB _); (case hB => (first | omega | (simp; done) | (simp; omega)))) | (with_reducible refine Below.drew ?_) | ((with_reducible refine below_ext_of ?_ ?hB); (case hB => (first | omega | (simp; done) | (simp; omega)))) | ((with_reducible refine Below.trans ?_ (Below.mono (by assumption) ?hB)); (case hB => (first | omega | (simp; done) | (simp; omega)))))); done)); rintro e w2 ⟨rfl, hb2⟩; obtain ⟨hc2, hf2⟩ := bcell hb2; have hz2 := hb2.size) | (refine ⟨trivial, ?_⟩; gi_at_call 112; (with_reducible refine (CallsIn.inRound l (callsIn_wide.2 (cR _ ?_ ?_))).mono ?_); (focus (have hWx : Below W.heap.size W w2 := (by (repeat (first | (with_reducible exact Below.refl _ _) | ((with_reducible refine Below.alloc ?_ ?hB _); (case hB => (first | omega | (simp; done) | (simp; omega)))) | ((with_reducible refine Below.setCell ?_ ?hB _); (case hB => (first | omega | (simp; done) | (simp; omega)))) | (with_reducible refine Below.drew ?_) | ((with_reducible refine below_ext_of ?_ ?hB); (case hB => (first | omega | (simp; done) | (simp; omega)))) | ((with_reducible refine Below.trans ?_ (Below.mono (by assumption) ?hB)); (case hB => (first | omega | (simp; done) | (simp; omega))))))); exact bld_set (bld_below HBL.out hWx) _ _ (by simp) ((hWx.block _ hz0).trans HI.out.num) (by decide))); (focus (simp only [World.size_setCell]; omega)); rintro e w4 ⟨⟨v4, rfl⟩, hbd4, hbl4, hko4⟩; have hz4 := hbl4.size))
          (have hWx : Below W.heap.size W w2 := (by (repeat (first | (with_reducible exact Below.refl _ _) | ((with_reducible refine Below.alloc ?_ ?hB _); (case hB => (first | omega | (simp; done) | (simp; omega)))) | ((with_reducible refine Below.setCell ?_ ?hB _); (case hB => (first | omega | (simp; done) | (simp; omega)))) | (with_reducible refine Below.drew ?_) | ((with_reducible refine below_ext_of ?_ ?hB); (case hB => (first | omega | (simp; done) | (simp; omega)))) | ((with_reducible refine Below.trans ?_ (Below.mono (by assumption) ?hB)); (case hB => (first | omega | (simp; done) | (simp; omega))))))); have hn3 := heap_setCell_same _ _ 0 _ _ (.int .i64 ((n : Int) + 1)) ((hWx.block _ hz0).trans HI.out.num); have hs3 := (heap_setCell_other w2 ⟨w.heap.size + 1 + 1, 0, none⟩ w.heap.size (.int .i64 ((n : Int) + 1)) (show w.heap.size ≠ w.heap.size + 1 + 1 from by omega)).trans ((hWx.block _ (by omega)).trans HI.out.str); obtain ⟨cb, fb, hcb⟩ := bld_ne (k := 0) (bld_set (bld_below HBL.out hWx) ⟨w.heap.size + 1 + 1, 0, none⟩ (.int .i64 ((n : Int) + 1)) (by simp) ((hWx.block _ hz0).trans HI.out.num) (by decide)); have hko := ((ko_below hWx).trans (KeepsOthers.setCell w2 ⟨w.heap.size + 1 + 1, 0, none⟩ (.int .i64 ((n : Int) + 1)))).trans (ko_others hko4 hz4 hcb); exact ⟨hko, hko.walks, ⟨others_cells hko4 (by omega) hs3 (by decide), by rw [List.length_append, ← HN.out]; exact others_cells hko4 (by omega) hn3 (by decide), by rw [List.map_append, List.map_singleton, outL_snoc, HBS.out, HR.out]; exact hbd4, by rw [List.length_append, ← HN.out, List.length_singleton]; omega, ((HI.out.bel.trans (hWx.mono HI.out.bel.size)).setCell (show w.heap.size ≤ w.heap.size + 1 + 1 from by omega) _).trans hbl4⟩⟩)
      · rw [hk] at cB
        have HR := Lib.hid (show outR s x.1 = 63 from by rw [HOR.out, ho, hk]; rfl)
        rw [HR.out] at cR
        clear ho hk
        by_cases h64 : n = 64
        · subst h64
          gi_wp2_with (first | (refine ⟨trivial, ?_⟩; gi_at_call 110; (with_reducible refine (CallsIn.inRound l (callsIn_wide.2 (cO _))).mono ?_); rintro e w1 ⟨rfl, hb1⟩; obtain ⟨hc1, hf1⟩ := bcell hb1; have hz1 := hb1.size) | (refine ⟨trivial, ?_⟩; gi_at_call 111; (with_reducible refine (CallsIn.inRound l (callsIn_wide.2 (cB _ ?_))).mono ?_); (focus ((repeat (first | (with_reducible exact Below.refl _ _) | ((with_reducible refine Below.alloc ?_ ?hB _); (case hB => (first | omega | (simp; done) | (simp; omega)))) | ((with_reducible refine Below.setCell ?_ ?hB _); (case hB => (first | omega | (simp; done) | (simp; omega)))) | (with_reducible refine Below.drew ?_) | ((with_reducible refine below_ext_of ?_ ?hB); (case hB => (first | omega | (simp; done) | (simp; omega)))) | ((with_reducible refine Below.trans ?_ (Below.mono (by assumption) ?hB)); (case hB => (first | omega | (simp; done) | (simp; omega)))))); done)); rintro e w2 ⟨rfl, hb2⟩; obtain ⟨hc2, hf2⟩ := bcell hb2; have hz2 := hb2.size))
          (have hWx : Below W.heap.size W w2 := (by (repeat (first | (with_reducible exact Below.refl _ _) | ((with_reducible refine Below.alloc ?_ ?hB _); (case hB => (first | omega | (simp; done) | (simp; omega)))) | ((with_reducible refine Below.setCell ?_ ?hB _); (case hB => (first | omega | (simp; done) | (simp; omega)))) | (with_reducible refine Below.drew ?_) | ((with_reducible refine below_ext_of ?_ ?hB); (case hB => (first | omega | (simp; done) | (simp; omega)))) | ((with_reducible refine Below.trans ?_ (Below.mono (by assumption) ?hB)); (case hB => (first | omega | (simp; done) | (simp; omega))))))); exact ⟨(ko_below hWx).trans (KeepsOthers.setCell _ _ _), rfl, ⟨by rw [t64 HN.out.symm, HBS.out]; exact bld_set (bld_below HBL.out hWx) _ _ (by simp) ((hWx.block _ hz0).trans HI.out.num) (by decide), by rw [List.length_append, ← HN.out]; rfl, (HI.out.bel.trans (hWx.mono HI.out.bel.size)).setCell (show w.heap.size ≤ w.heap.size + 1 + 1 from by omega) _⟩⟩)
        · have h63 : (n : Int) ≤ 63 := by omega
          gi_wp2_with (first | (refine ⟨trivial, ?_⟩; gi_at_call 110; (with_reducible refine (CallsIn.inRound l (callsIn_wide.2 (cO _))).mono ?_); rintro e w1 ⟨rfl, hb1⟩; obtain ⟨hc1, hf1⟩ := bcell hb1; have hz1 := hb1.size) | (refine ⟨trivial, ?_⟩; gi_at_call 111; (with_reducible refine (CallsIn.inRound l (callsIn_wide.2 (cB _ ?_))).mono ?_); (focus ((repeat (first | (with_reducible exact Below.refl _ _) | ((with_reducible refine Below.alloc ?_ ?hB _); (case hB => (first | omega | (simp; done) | (simp; omega)))) | ((with_reducible refine Below.setCell ?_ ?hB _); (case hB => (first | omega | (simp; done) | (simp; omega)))) | (with_reducible refine Below.drew ?_) | ((with_reducible refine below_ext_of ?_ ?hB); (case hB => (first | omega | (simp; done) | (simp; omega)))) | ((with_reducible refine Below.trans ?_ (Below.mono (by assumption) ?hB)); (case hB => (first | omega | (simp; done) | (simp; omega)))))); done)); rintro e w2 ⟨rfl, hb2⟩; obtain ⟨hc2, hf2⟩ := bcell hb2; have hz2 := hb2.size) | (refine ⟨trivial, ?_⟩; gi_at_call 112; (with_reducible refine (CallsIn.inRound l (callsIn_wide.2 (cR _ ?_ ?_))).mono ?_); (focus (have hWx : Below W.heap.size W w2 := (by (repeat (first | (with_reducible exact Below.refl _ _) | ((with_reducible refine Below.alloc ?_ ?hB _); (case hB => (first | omega | (simp; done) | (simp; omega)))) | ((with_reducible refine Below.setCell ?_ ?hB _); (case hB => (first | omega | (simp; done) | (simp; omega)))) | (with_reducible refine Below.drew ?_) | ((with_reducible refine below_ext_of ?_ ?hB); (case hB => (first | omega | (simp; done) | (simp; omega)))) | ((with_reducible refine Below.trans ?_ (Below.mono (by assumption) ?hB)); (case hB => (first | omega | (simp; done) | (simp; omega))))))); exact bld_set (bld_below HBL.out hWx) _ _ (by simp) ((hWx.block _ hz0).trans HI.out.num) (by decide))); (focus (simp only [World.size_setCell]; omega)); rintro e w4 ⟨⟨v4, rfl⟩, hbd4, hbl4, hko4⟩; have hz4 := hbl4.size))
          (have hWx : Below W.heap.size W w2 := (by (repeat (first | (with_reducible exact Below.refl _ _) | ((with_reducible refine Below.alloc ?_ ?hB _); (case hB => (first | omega | (simp; done) | (simp; omega)))) | ((with_reducible refine Below.setCell ?_ ?hB _); (case hB => (first | omega | (simp; done) | (simp; omega)))) | (with_reducible refine Below.drew ?_) | ((with_reducible refine below_ext_of ?_ ?hB); (case hB => (first | omega | (simp; done) | (simp; omega)))) | ((with_reducible refine Below.trans ?_ (Below.mono (by assumption) ?hB)); (case hB => (first | omega | (simp; done) | (simp; omega))))))); have hn3 := heap_setCell_same _ _ 0 _ _ (.int .i64 ((n : Int) + 1)) ((hWx.block _ hz0).trans HI.out.num); have hs3 := (heap_setCell_other w2 ⟨w.heap.size + 1 + 1, 0, none⟩ w.heap.size (.int .i64 ((n : Int) + 1)) (show w.heap.size ≠ w.heap.size + 1 + 1 from by omega)).trans ((hWx.block _ (by omega)).trans HI.out.str); obtain ⟨cb, fb, hcb⟩ := bld_ne (k := 0) (bld_set (bld_below HBL.out hWx) ⟨w.heap.size + 1 + 1, 0, none⟩ (.int .i64 ((n : Int) + 1)) (by simp) ((hWx.block _ hz0).trans HI.out.num) (by decide)); have hko := ((ko_below hWx).trans (KeepsOthers.setCell w2 ⟨w.heap.size + 1 + 1, 0, none⟩ (.int .i64 ((n : Int) + 1)))).trans (ko_others hko4 hz4 hcb); exact ⟨hko, hko.walks, ⟨others_cells hko4 (by omega) hs3 (by decide), by rw [List.length_append, ← HN.out]; exact others_cells hko4 (by omega) hn3 (by decide), by rw [List.map_append, List.map_singleton, outL_snoc, HBS.out, HR.out]; exact hbd4, by rw [List.length_append, ← HN.out, List.length_singleton]; omega, ((HI.out.bel.trans (hWx.mono HI.out.bel.size)).setCell (show w.heap.size ≤ w.heap.size + 1 + 1 from by omega) _).trans hbl4⟩⟩)
    · rw [ho] at cO
      have HR := Lib.hid (show outR s x.1 = 63 from by rw [HOR.out, ho]; rfl)
      rw [HR.out] at cR
      clear ho
      by_cases h64 : n = 64
      · subst h64
        gi_wp2_with (first | (refine ⟨trivial, ?_⟩; gi_at_call 110; (with_reducible refine (CallsIn.inRound l (callsIn_wide.2 (cO _))).mono ?_); rintro e w1 ⟨rfl, hb1⟩; obtain ⟨hc1, hf1⟩ := bcell hb1; have hz1 := hb1.size))
        refine ⟨trivial, ?_⟩
        gi_wp2
        (have hWx : Below W.heap.size W w1 := (by (repeat (first | (with_reducible exact Below.refl _ _) | ((with_reducible refine Below.alloc ?_ ?hB _); (case hB => (first | omega | (simp; done) | (simp; omega)))) | ((with_reducible refine Below.setCell ?_ ?hB _); (case hB => (first | omega | (simp; done) | (simp; omega)))) | (with_reducible refine Below.drew ?_) | ((with_reducible refine below_ext_of ?_ ?hB); (case hB => (first | omega | (simp; done) | (simp; omega)))) | ((with_reducible refine Below.trans ?_ (Below.mono (by assumption) ?hB)); (case hB => (first | omega | (simp; done) | (simp; omega))))))); exact ⟨(ko_below hWx).trans (KeepsOthers.setCell _ _ _), rfl, ⟨by rw [t64 HN.out.symm, HBS.out]; exact bld_set (bld_below HBL.out hWx) _ _ (by simp) ((hWx.block _ hz0).trans HI.out.num) (by decide), by rw [List.length_append, ← HN.out]; rfl, (HI.out.bel.trans (hWx.mono HI.out.bel.size)).setCell (show w.heap.size ≤ w.heap.size + 1 + 1 from by omega) _⟩⟩)
      · have h63 : (n : Int) ≤ 63 := by omega
        gi_wp2_with (first | (refine ⟨trivial, ?_⟩; gi_at_call 110; (with_reducible refine (CallsIn.inRound l (callsIn_wide.2 (cO _))).mono ?_); rintro e w1 ⟨rfl, hb1⟩; obtain ⟨hc1, hf1⟩ := bcell hb1; have hz1 := hb1.size))
        refine ⟨trivial, ?_⟩
        gi_wp2_with (first | (refine ⟨trivial, ?_⟩; gi_at_call 112; (with_reducible refine (CallsIn.inRound l (callsIn_wide.2 (cR _ ?_ ?_))).mono ?_); (focus (have hWx : Below W.heap.size W w1 := (by (repeat (first | (with_reducible exact Below.refl _ _) | ((with_reducible refine Below.alloc ?_ ?hB _); (case hB => (first | omega | (simp; done) | (simp; omega)))) | ((with_reducible refine Below.setCell ?_ ?hB _); (case hB => (first | omega | (simp; done) | (simp; omega)))) | (with_reducible refine Below.drew ?_) | ((with_reducible refine below_ext_of ?_ ?hB); (case hB => (first | omega | (simp; done) | (simp; omega)))) | ((with_reducible refine Below.trans ?_ (Below.mono (by assumption) ?hB)); (case hB => (first | omega | (simp; done) | (simp; omega))))))); exact bld_set (bld_below HBL.out hWx) _ _ (by simp) ((hWx.block _ hz0).trans HI.out.num) (by decide))); (focus (simp only [World.size_setCell]; omega)); rintro e w4 ⟨⟨v4, rfl⟩, hbd4, hbl4, hko4⟩; have hz4 := hbl4.size))
        (have hWx : Below W.heap.size W w1 := (by (repeat (first | (with_reducible exact Below.refl _ _) | ((with_reducible refine Below.alloc ?_ ?hB _); (case hB => (first | omega | (simp; done) | (simp; omega)))) | ((with_reducible refine Below.setCell ?_ ?hB _); (case hB => (first | omega | (simp; done) | (simp; omega)))) | (with_reducible refine Below.drew ?_) | ((with_reducible refine below_ext_of ?_ ?hB); (case hB => (first | omega | (simp; done) | (simp; omega)))) | ((with_reducible refine Below.trans ?_ (Below.mono (by assumption) ?hB)); (case hB => (first | omega | (simp; done) | (simp; omega))))))); have hn3 := heap_setCell_same _ _ 0 _ _ (.int .i64 ((n : Int) + 1)) ((hWx.block _ hz0).trans HI.out.num); have hs3 := (heap_setCell_other w1 ⟨w.heap.size + 1 + 1, 0, none⟩ w.heap.size (.int .i64 ((n : Int) + 1)) (show w.heap.size ≠ w.heap.size + 1 + 1 from by omega)).trans ((hWx.block _ (by omega)).trans HI.out.str); obtain ⟨cb, fb, hcb⟩ := bld_ne (k := 0) (bld_set (bld_below HBL.out hWx) ⟨w.heap.size + 1 + 1, 0, none⟩ (.int .i64 ((n : Int) + 1)) (by simp) ((hWx.block _ hz0).trans HI.out.num) (by decide)); have hko := ((ko_below hWx).trans (KeepsOthers.setCell w1 ⟨w.heap.size + 1 + 1, 0, none⟩ (.int .i64 ((n : Int) + 1)))).trans (ko_others hko4 hz4 hcb); exact ⟨hko, hko.walks, ⟨others_cells hko4 (by omega) hs3 (by decide), by rw [List.length_append, ← HN.out]; exact others_cells hko4 (by omega) hn3 (by decide), by rw [List.map_append, List.map_singleton, outL_snoc, HBS.out, HR.out]; exact hbd4, by rw [List.length_append, ← HN.out, List.length_singleton]; omega, ((HI.out.bel.trans (hWx.mono HI.out.bel.size)).setCell (show w.heap.size ≤ w.heap.size + 1 + 1 from by omega) _).trans hbl4⟩⟩)
  case done =>
    intro D xs W hD hS hI hK
    have hcl : (⟨(outL s (xs.map (·.1))).toArray⟩ : ByteArray) = cleanP s := by
      unfold cleanP
      rw [← hS, List.take_of_length_le (by rw [List.length_map]; exact hI.few)]
    have cS := Tryd.Builder_String_any_k w.heap.size (w.heap.size + 1) (outL s (xs.map (·.1))) W hI.bld hI.bel.size
    rw [hcl] at cS
    obtain ⟨cb, fb, hcb⟩ := bld_ne (k := 0) hI.bld
    have HBE := Lib.hid hI.bel
    clear hS hI hT hcl hcs hb0
    gi_wp2_with (refine ⟨trivial, ?_⟩; gi_at_call 113; refine (callsIn_wide.2 cS).mono ?_; rintro e w5 ⟨rfl, hbd5, hbl5, hko5⟩)
    have hK5 := (ko_others hko5 hbl5.size hcb).same D _ hK rfl
    refine ⟨by simp, .inl ⟨_, _, rfl, run_takeDeferred hK5, ?_⟩⟩
    exact ⟨_, results_tmp rfl _ _ _, rfl, (HBE.out.trans hbl5).trans (belowK_b (w := w) (Nat.le_refl _) w5 D _ _ (by simp at hD; omega) hK5 rfl rfl)⟩
  case stop =>
    rintro D c pre W hD ⟨tl, hSp⟩ ⟨rfl, hX⟩ hK
    have hcl : (⟨(outL s ((pre.map (·.1)).take 64)).toArray⟩ : ByteArray) = cleanP s := by
      unfold cleanP
      rw [hSp, List.take_append_of_le_length (by rw [List.length_map, hX.len]; omega)]
    have cS := Tryd.Builder_String_any_k w.heap.size (w.heap.size + 1) (outL s ((pre.map (·.1)).take 64)) W hX.bld hX.bel.size
    rw [hcl] at cS
    obtain ⟨cb, fb, hcb⟩ := bld_ne (k := 0) hX.bld
    have HBE := Lib.hid hX.bel
    clear hSp hX hT hcl hcs hb0
    gi_wp2_with (refine ⟨trivial, ?_⟩; gi_at_call 113; refine (callsIn_wide.2 cS).mono ?_; rintro e w5 ⟨rfl, hbd5, hbl5, hko5⟩)
    have hK5 := (ko_others hko5 hbl5.size hcb).same D _ hK rfl
    refine ⟨by simp, .inl ⟨_, _, rfl, run_takeDeferred hK5, ?_⟩⟩
    exact ⟨_, results_tmp rfl _ _ _, rfl, (HBE.out.trans hbl5).trans (belowK_b (w := w) (Nat.le_refl _) w5 D _ _ (by simp at hD; omega) hK5 rfl rfl)⟩
/-- Whether a text is a title. -/
theorem t_May (s : ByteArray) (w : World) (hT : Lib.Utf8Tabs 2 3 w) (hs : s.size ≤ 1000000) : Calls Tryd.prog 78 #[.string s] w fun e w' => e = .returned (.bool (mayT s)) ∧ Below w.heap.size w w' := by
  have cC := t_Clean s w hT hs
  have hiff := clean_may s
  have hm : decide (cleanP s = s) = mayT s := by
    rw [Bool.eq_iff_iff, decide_eq_true_iff]; exact hiff
  have hb := str_beq _ _ _ hm
  clear hiff hT hs hm
  generalize cleanP s = c at *
  generalize mayT s = v at *
  go_enter Tryd.func78, Tryd.ntmps78
  go_wp2_with (first | (go_at_call 100; (with_reducible refine (cC).mono ?_); rintro e w1 ⟨rfl, hb1⟩; obtain ⟨hc1, hf1⟩ := bcell hb1; have hz1 := hb1.size; (try simp only [World.size_alloc, World.size_setCell, World.size_drew] at hz1)))
  (go_ret; refine ⟨?_, by (repeat (first | (with_reducible exact Below.refl _ _) | ((with_reducible refine Below.alloc ?_ ?hB _); (case hB => (first | omega | (simp; done) | (simp; omega)))) | ((with_reducible refine Below.setCell ?_ ?hB _); (case hB => (first | omega | (simp; done) | (simp; omega)))) | (with_reducible refine Below.drew ?_) | ((with_reducible refine below_ext_of ?_ ?hB); (case hB => (first | omega | (simp; done) | (simp; omega)))) | ((with_reducible refine Below.trans ?_ (Below.mono (by assumption) ?hB)); (case hB => (first | omega | (simp; done) | (simp; omega))))))⟩); rfl
end Go.Proofs.YtinnaiofgbjicaaDoor
