/- The program's arguments of bytes, walked. -/
import Derived.Test.YtinnaiofgbjicaaDoorArgU
import Derived.Lib.OthersKept
namespace Go.Proofs.YtinnaiofgbjicaaDoor
open Go.RowKit Go.Proofs.YtinnaiofgbjicaaDoorW.PrintWords
open Go.Lib (run_next_ascii_at run_next_end_at iterAt_heap iterAt_other iterAt_size)
set_option linter.unusedSimpArgs false
set_option linter.unusedVariables false
set_option maxRecDepth 1000000
theorem grown_iter (w : World) (q : Nat) (s : ByteArray) (pos : Nat) : w.grownBy (w.iterAt q s pos) (some q) :=
  ⟨rfl, rfl, rfl, by rw [iterAt_size]; exact Nat.le_refl _, fun i hi hne => iterAt_other w q i s pos (fun e => hne (by rw [e]))⟩
theorem Rd.grown {w w1 : World} {p : Nat} {b : List Int} {e : Int} {row : Option Nat} (h : Rd w p b e) (hg : w.grownBy w1 row) (hr : ∀ k, row = some k → p < k) : Rd w1 p b e := by
  obtain ⟨A, c, h0, hc, h1, hz, hn⟩ := h
  refine ⟨A, c, blk_grown h0 hg (fun e => by have := hr _ e.symm; omega), hc, ⟨h1.1, h1.2.1, fun hq => ?_⟩, hz, hn⟩
  obtain ⟨ad, e, hcell⟩ := h1.2.2 hq
  refine ⟨ad, e, fun j hj => hg.cell (hcell j hj) (fun e1 => ?_)⟩
  have := hr _ e1.symm
  have h2 := hn hq ad e
  rw [add_blk] at this; omega
/-- A row of values of any type, none of bytes but at the end. -/
def OwnA (w : World) (base : Nat) (v : Value) (l : List V8) : Prop := ∃ cells : List Value, w.ownsRow base 20 1 v cells.length cells ∧ cells.length = l.length ∧ ∀ i, i < l.length → AnyR w (at8 l i) (cells.getD i .nilIface)
def NoB (l : List V8) : Prop := ∀ i, i < l.length → ¬ (at8 l i).kind = 3
theorem at8_snoc (l : List V8) (x : V8) (i : Nat) : at8 (l ++ [x]) i = if i < l.length then at8 l i else if i = l.length then x else v0 := by
  unfold at8
  rw [List.getD_eq_getElem?_getD, List.getD_eq_getElem?_getD]
  by_cases h : i < l.length
  · rw [if_pos h, List.getElem?_append_left h]
  · rw [if_neg h]
    by_cases h2 : i = l.length
    · subst h2; rw [if_pos rfl]; simp
    · rw [if_neg h2, List.getElem?_eq_none (by simp; omega)]; rfl
theorem NoB.snoc {l : List V8} {x : V8} (h : NoB l) (hx : ¬ x.kind = 3) : NoB (l ++ [x]) := fun i hi => by
  rw [at8_snoc]; split
  · exact h i ‹_›
  · split
    · exact hx
    · simp [v0]
theorem NoB.nil : NoB [] := fun i hi => by simp at hi
theorem OwnA.nil (w : World) (base : Nat) : OwnA w base (.slice none 0 0) [] := ⟨[], own_nil _ _ _ _, rfl, fun i hi => by simp at hi⟩
theorem OwnA.grown {w w1 : World} {base : Nat} {v : Value} {l : List V8} {row : Option Nat} (h : OwnA w base v l) (hb : NoB l) (hg : w.grownBy w1 row) (hr : ∀ k, row = some k → k < base) : OwnA w1 base v l := by
  obtain ⟨cs, h1, h2, h3⟩ := h
  refine ⟨cs, h1.kept hg ?_, h2, fun i hi => (h3 i hi).any_world (hb i hi)⟩
  by_cases e : v.ownBlock = none
  · exact .inl e
  · obtain ⟨g, hgv⟩ := Option.ne_none_iff_exists'.1 e
    exact .inr fun e2 => by
      have a := World.ownsRow.lt h1 g hgv
      have c := hr g (e2.symm.trans hgv)
      omega
theorem OwnA.below {w w1 : World} {base : Nat} {v : Value} {l : List V8} (h : OwnA w base v l) (hb : Below w.heap.size w w1) : OwnA w1 base v l := by
  obtain ⟨cs, h1, h2, h3⟩ := h
  exact ⟨cs, pw_own_below h1 hb, h2, fun i hi => (h3 i hi).below hb⟩
theorem OwnA.row {w : World} {base : Nat} {v : Value} {l : List V8} (h : OwnA w base v l) : ∃ A c, v = .slice A l.length c ∧ l.length ≤ c ∧ AnyRow w A l := by
  obtain ⟨cs, h1, h2, h3⟩ := h
  exact OwnAny.row ⟨cs, h1, h2, h3⟩ (Below.refl _ _)
def UnpP (w : World) (r : Int × List V8) (e : Ending) (w' : World) : Prop := ∃ A c, e = .returned (.tuple #[.slice A r.2.length c, .int .i64 r.1]) ∧ r.2.length ≤ c ∧ AnyRow w' A r.2 ∧ Below w.heap.size w w'
theorem UnpP.err {w w' : World} {r : Int × List V8} {i : Int} (h : r = (i, [])) (hb : Below w.heap.size w w') : UnpP w r (.returned (.tuple #[.slice none 0 0, .int .i64 i])) w' := by
  subst h; exact ⟨none, 0, rfl, Nat.le_refl _, fun i hi => by simp at hi, hb⟩
theorem UnpP.ok {w w' : World} {r : Int × List V8} {l : List V8} {v : Value} {base : Nat} (h : r = (0, l)) (ho : OwnA w' base v l) (hb : Below w.heap.size w w') : UnpP w r (.returned (.tuple #[v, .int .i64 0])) w' := by
  subst h
  obtain ⟨A, c, rfl, hc, hr⟩ := ho.row
  exact ⟨A, c, rfl, hc, hr, hb⟩
theorem lt_of_cell {w : World} {a : Addr} {v : Value} (h : w.cell? a = some v) : a.block < w.heap.size := by
  unfold World.cell? at h
  by_cases hb : a.block < w.heap.size
  · exact hb
  · rw [Array.getElem?_eq_none (by omega)] at h; simp at h
theorem iter_pos {w : World} {q : Nat} {s : ByteArray} {k : Nat} (h : w.heap[q]? = some (.stringIter s k)) : w.iterPos q = k := by simp [World.iterPos, h]
theorem Rd.belowB {w w1 : World} {p B : Nat} {b : List Int} {e : Int} (h : Rd w p b e) (hb : Below B w w1) (hp : p < B) : Rd w1 p b e := by
  obtain ⟨A, c, h0, hc, h1, hz, hn⟩ := h
  refine ⟨A, c, (hb.block p hp).trans h0, hc, ⟨h1.1, h1.2.1, fun hq => ?_⟩, hz, hn⟩
  obtain ⟨ad, e, hcell⟩ := h1.2.2 hq
  refine ⟨ad, e, fun j hj => ?_⟩
  have h2 := hn hq ad e
  rw [hb.cell (p := ad.add j) (by rw [add_blk]; omega)]; exact hcell j hj
theorem blk_belowB {w w1 : World} {q B : Nat} {o : Obj} (h : w.heap[q]? = some o) (hb : Below B w w1) (hq : q < B) : w1.heap[q]? = some o := (hb.block q hq).trans h
theorem below_two {w w1 w2 : World} {p n B : Nat} (hg : w.grownBy w1 (some p)) (hb : Below B w1 w2) (hnp : n ≤ p) (hnB : n ≤ B) (hn : n ≤ w.heap.size) : Below n w w2 :=
  (Below.grown (Below.refl n w) hg hn (fun k e => by injection e with e; omega)).trans (hb.mono hnB)
theorem OwnA.snoc {w w4 : World} {base : Nat} {v : Value} {cs : List Value} {l : List V8} {x : V8} {u : Value} (hcl : cs.length = l.length) (hca : ∀ i, i < l.length → AnyR w (at8 l i) (cs.getD i .nilIface)) (hnb : NoB l) (ho : w4.ownsRow base 20 1 v (cs ++ [u]).length (cs ++ [u])) (hu : AnyR w4 x u) : OwnA w4 base v (l ++ [x]) := by
  refine ⟨cs ++ [u], ho, by simp [hcl], fun i hi => ?_⟩
  rw [at8_snoc]
  by_cases h : i < l.length
  · rw [if_pos h, List.getD_eq_getElem?_getD, List.getElem?_append_left (by omega), ← List.getD_eq_getElem?_getD]
    exact (hca i h).any_world (hnb i h)
  · have : i = l.length := by simp at hi; omega
    subst this
    rw [if_neg h, if_pos rfl, List.getD_eq_getElem?_getD, List.getElem?_append_right (by omega), hcl]
    simpa using hu
theorem formP_at {f : ByteArray} (h : formP f = true) {k : Nat} (hk : k < f.size) : letC (byN f k) ∧ (byN f k = 98 → f.size ≤ k + 1) := by
  unfold formP at h; exact (of_decide_eq_true h).1 k hk
theorem formP_le {f : ByteArray} (h : formP f = true) : f.size ≤ 8 := by
  unfold formP at h; exact (of_decide_eq_true h).2
set_option maxHeartbeats 1000000 in
theorem args_Unpack (f : ByteArray) (A : Option Addr) (b : List Int) (c : Nat) (w : World) (hz : f.size ≤ 140737488351232) (hb : Byt b) (hn : b.length ≤ 1000000) (hc : b.length ≤ c) (hA : A = none → c = 0) (hr : ReadsInt w .u8 A b.length b) : Calls Tryd.prog 42 #[.string f, .slice A b.length c] w (UnpP w (unpackP f b)) := by
  have cf := fun w => args_Form f w hz
  cases hf : formP f
  · have hP := Lib.hid (show unpackP f b = (1, []) from by unfold unpackP; rw [if_neg (by simp [hf])])
    rw [hf] at cf
    go_enter Tryd.func42, Tryd.ntmps42
    go_wp2_with (first | (go_at_call 65; (with_reducible refine (cf _).mono ?_); rintro e w1 ⟨rfl, hb1⟩; obtain ⟨hc1, hf1⟩ := bcell hb1; have hz1 := hb1.size; (try simp only [World.size_alloc, World.size_setCell, World.size_drew] at hz1)))
    go_ret2
    exact UnpP.err hP.out (by (repeat (first | (with_reducible exact Below.refl _ _) | ((with_reducible refine Below.alloc ?_ ?hB _); (case hB => (first | omega | (simp; done) | (simp; omega)))) | ((with_reducible refine Below.setCell ?_ ?hB _); (case hB => (first | omega | (simp; done) | (simp; omega)))) | (with_reducible refine Below.drew ?_) | ((with_reducible refine below_ext_of ?_ ?hB); (case hB => (first | omega | (simp; done) | (simp; omega)))) | ((with_reducible refine Below.trans ?_ (Below.mono (by assumption) ?hB)); (case hB => (first | omega | (simp; done) | (simp; omega)))))))
  · have HF := Lib.hid hf
    have h8 := formP_le hf
    rw [hf] at cf
    clear hf
    go_enter Tryd.func42, Tryd.ntmps42
    go_wp2_with (first | (go_at_call 65; (with_reducible refine (cf _).mono ?_); rintro e w1 ⟨rfl, hb1⟩; obtain ⟨hc1, hf1⟩ := bcell hb1; have hz1 := hb1.size; (try simp only [World.size_alloc, World.size_setCell, World.size_drew] at hz1)))
    have hRd : Rd ((w1.alloc (.cells #[.slice A b.length c, .int .i64 0] 120)).iter f 0) w1.heap.size b 0 := by
      refine ⟨A, c, blk_below (heap_alloc_new _ _) (below_iter _ _ _), hc, (hr.below hb1).below (((Below.refl _ _).alloc (Nat.le_refl _) _).trans ((below_iter _ _ _).mono (by simp))), hA, fun h ad e => ?_⟩
      obtain ⟨ad', e', hcell⟩ := hr.2.2 h
      rw [e] at e'; injection e' with e'; subst e'
      have := lt_of_cell (hcell 0 h)
      rw [add_blk] at this; omega
    have hIt : ((w1.alloc (.cells #[.slice A b.length c, .int .i64 0] 120)).iter f 0).heap[w1.heap.size + 1]? = some (.stringIter f 0) := by
      have := heap_alloc_new (w1.alloc (.cells #[.slice A b.length c, .int .i64 0] 120)) (.stringIter f 0)
      simpa [World.iter] using this
    have hB0 : Below w.heap.size w ((w1.alloc (.cells #[.slice A b.length c, .int .i64 0] 120)).iter f 0) := (by (repeat (first | (with_reducible exact Below.refl _ _) | ((with_reducible refine Below.alloc ?_ ?hB _); (case hB => (first | omega | (simp; done) | (simp; omega)))) | ((with_reducible refine Below.setCell ?_ ?hB _); (case hB => (first | omega | (simp; done) | (simp; omega)))) | (with_reducible refine Below.drew ?_) | ((with_reducible refine below_ext_of ?_ ?hB); (case hB => (first | omega | (simp; done) | (simp; omega)))) | ((with_reducible refine Below.trans ?_ (Below.mono (by assumption) ?hB)); (case hB => (first | omega | (simp; done) | (simp; omega)))))) : Below w.heap.size w (w1.alloc (.cells #[.slice A b.length c, .int .i64 0] 120))).trans ((below_iter _ _ _).mono (by simp; omega))
    have hS0 := size_iter (w1.alloc (.cells #[.slice A b.length c, .int .i64 0] 120)) f 0
    rw [World.size_alloc] at hS0
    clear hr hA
    obtain ⟨p, hp⟩ : ∃ p, w1.heap.size = p := ⟨_, rfl⟩
    rw [hp] at hRd hIt hS0 hz1
    have hz0 : p + 2 ≤ ((w1.alloc (.cells #[.slice A b.length c, .int .i64 0] 120)).iter f 0).heap.size := by omega
    rw [hp]
    clear hS0 hp
    go_loopw [7] (fun v wr => ∃ (k : Nat) (l : List V8) (r : List Int), k ≤ f.size ∧ l.length = k ∧ unpackFrom f b k = some (l, r) ∧ Byt r ∧ r.length ≤ b.length ∧ (k < f.size → NoB l) ∧ OwnA wr (p + 2) v l ∧ Rd wr p r 0 ∧ wr.heap[p + 1]? = some (.stringIter f k) ∧ Below w.heap.size w wr ∧ p + 2 ≤ wr.heap.size) (fun _ wr => f.size - wr.iterPos (p + 1))
    case atStart => exact ⟨0, [], b, by omega, rfl, rfl, hb, by omega, fun _ => NoB.nil, OwnA.nil _ _, hRd, hIt, hB0, by omega⟩
    case round =>
      obtain ⟨k, l, r, hk, hlk, hu, hby, hrl, hnb, hown, hrd, hit, hbr, hps⟩ := hrel
      have hpos : wr.iterPos (p + 1) = k := iter_pos hit
      by_cases hlt : k < f.size
      · have hfa := formP_at HF.out hlt
        obtain ⟨hlet, h98⟩ := hfa
        have ha : (f[k]'hlt).toNat < 128 := by
          have e := byN_at f k hlt
          unfold letC at hlet; omega
        have hnx := fun ty => run_next_ascii_at (P := Tryd.prog) wr (p + 1) f k ty hit hlt ha
        have hnb := hnb hlt
        have hrd1 := hrd.grown (grown_iter wr (p + 1) f (k + 1)) (fun k e => by injection e with e; omega)
        have cO := rd_one p (byN f k) r _ hlet hby (by omega) hrd1
        have hown1 := hown.grown hnb (grown_iter wr (p + 1) f (k + 1)) (fun k e => by injection e with e; omega)
        have hs1 := iterAt_size wr (p + 1) f (k + 1)
        have hit1 := iterAt_heap wr (p + 1) f k (k + 1) hit
        have hbr1 : Below w.heap.size w (wr.iterAt (p + 1) f (k + 1)) := Go.Lib.below_iterAt hbr (by omega) _ _
        have HX := Lib.hid (And.intro hu (And.intro hlk (And.intro hown1 (And.intro hnb hit1))))
        obtain ⟨wi, hwi⟩ : ∃ wi, wr.iterAt (p + 1) f (k + 1) = wi := ⟨_, rfl⟩
        rw [hwi] at cO hnx hs1 hbr1 HX
        clear hwi
        have HB1 := Lib.hid hbr1
        have HOB := Lib.hid (show ∀ g, u7.ownBlock = some g → g < wi.heap.size from fun g hg => by
          obtain ⟨cs, h1, _⟩ := hown
          have := (World.ownsRow.lt h1 g hg).2; omega)
        have HLE := Lib.hid (And.intro hlet h98)
        clear hown hrd hit hrd1 hown1 hit1 hu hnb hbr hbr1 hlet h98
        have hop : oneP (byN f k) r = none ∨ ∃ x r', oneP (byN f k) r = some (x, r') := by
          cases h : oneP (byN f k) r with
          | none => exact .inl rfl
          | some q => exact .inr ⟨q.1, q.2, rfl⟩
        rcases hop with ho | ⟨x, r', ho⟩
        · have HU := Lib.hid (show unpackP f b = (3, []) from by
            unfold unpackP; rw [if_pos HF.out]
            have := unpackFrom_none (unpackFrom_no HX.out.1 ho) (f.size - (k + 1))
            rw [show k + 1 + (f.size - (k + 1)) = f.size by omega] at this
            rw [this])
          rw [ho, ← byN_at f k hlt] at cO
          unfold OneQ OneR at cO
          clear ho
          go_wp2_with (first | (go_at_call 66; (with_reducible refine cO.mono ?_); rintro e w3 ⟨t, y, rfl, hd3, hg3, hf3⟩; have hd3 : Rd w3 p [] 3 := hd3; have hz3 := hg3.size; have hown3 := OwnA.grown HX.out.2.2.1 HX.out.2.2.2.1 hg3 (fun k e => by injection e with e; omega); obtain ⟨cs, hcs, hcl, hca⟩ := hown3; have it3 := blk_grown HX.out.2.2.2.2 hg3 (by intro e; injection e with e; omega); replace hd3 := Lib.hid hd3; replace it3 := Lib.hid it3; replace hca := Lib.hid hca; replace hcl := Lib.hid hcl; replace hg3 := Lib.hid hg3; replace hf3 := Lib.hid hf3; have hcl8 : cs.length ≤ 8 := (by have := hcl.out; have := HX.out.2.1; omega)) | (at_builtin; go_loud ((at_builtin; refine print_append (w0 := w3) (p + 2) rfl _ _ 87 20 .nilIface 16 rfl Tryd.underlying87 info_any rfl (by decide) _ cs (.iface t y) rfl ?_ rfl ?_ (Below.refl _ _) ?_ ?_ ?_; (focus (go_simp; done)); (focus (exact hcs)); (focus ((first | omega | (simp; done) | (simp; omega)); done)); (focus ((first | omega | (simp; done) | (simp; omega)); done)); intro v4 w4 hown4 hb4 hg4 _; have hz4 := hg4.size; have hd4 := hd3.out.belowB hb4 (by omega); have it4 := blk_belowB it3.out hb4 (by omega); obtain ⟨A4, c4, h40, h4c, h4r, h4z, h4n⟩ := hd4; have q0 := (blk_cell h40 0).trans rfl; have q1 := (blk_cell h40 1).trans rfl; have HD4 := Lib.hid (Rd.mk' h40 rfl h4c h4r h4z h4n); clear h40 h4r h4z h4n; replace it4 := Lib.hid it4; have HB4 := Lib.hid (Below.trans HB1.out (below_two hg3.out hb4 (by omega) (by omega) (by omega)))))))
          (refine wp_region_ext_lit (by kernel_rfl) (by kernel_rfl) ?_; (repeat (go_big_quiet_step ((fail)))); refine wpQuiet_nil ?_; intro w5 hb_w5; obtain ⟨hc_w5, hf_w5⟩ := bcell hb_w5; have hz_w5 := hb_w5.size; (try simp only [World.size_alloc, World.size_setCell, World.size_drew] at hz_w5))
          go_wp2
          go_ret2
          exact UnpP.err HU.out (HB4.out.trans (Below.mono (show Below w4.heap.size w4 w5 from by (repeat (first | (with_reducible exact Below.refl _ _) | ((with_reducible refine Below.alloc ?_ ?hB _); (case hB => (first | omega | (simp; done) | (simp; omega)))) | ((with_reducible refine Below.setCell ?_ ?hB _); (case hB => (first | omega | (simp; done) | (simp; omega)))) | (with_reducible refine Below.drew ?_) | ((with_reducible refine below_ext_of ?_ ?hB); (case hB => (first | omega | (simp; done) | (simp; omega)))) | ((with_reducible refine Below.trans ?_ (Below.mono (by assumption) ?hB)); (case hB => (first | omega | (simp; done) | (simp; omega))))))) (by omega)))
        · have hox := oneP_byt hby ho
          have HU := Lib.hid (And.intro (unpackFrom_yes HX.out.1 ho) hox)
          rw [ho, ← byN_at f k hlt] at cO
          unfold OneQ OneR at cO
          clear ho hox hby
          go_wp2_with (first | (go_at_call 66; (with_reducible refine cO.mono ?_); rintro e w3 ⟨t, y, rfl, ⟨hx3, hd3⟩, hg3, hf3⟩; replace hx3 := Lib.hid hx3; have hd3 : Rd w3 p r' 0 := hd3; have hz3 := hg3.size; have hown3 := OwnA.grown HX.out.2.2.1 HX.out.2.2.2.1 hg3 (fun k e => by injection e with e; omega); obtain ⟨cs, hcs, hcl, hca⟩ := hown3; have it3 := blk_grown HX.out.2.2.2.2 hg3 (by intro e; injection e with e; omega); replace hd3 := Lib.hid hd3; replace it3 := Lib.hid it3; replace hca := Lib.hid hca; replace hcl := Lib.hid hcl; replace hg3 := Lib.hid hg3; replace hf3 := Lib.hid hf3; have hcl8 : cs.length ≤ 8 := (by have := hcl.out; have := HX.out.2.1; omega)) | (at_builtin; refine print_append (w0 := w3) (p + 2) rfl _ _ 87 20 .nilIface 16 rfl Tryd.underlying87 info_any rfl (by decide) _ cs (.iface t y) rfl ?_ rfl ?_ (Below.refl _ _) ?_ ?_ ?_; (focus (go_simp; done)); (focus (exact hcs)); (focus ((first | omega | (simp; done) | (simp; omega)); done)); (focus ((first | omega | (simp; done) | (simp; omega)); done)); intro v4 w4 hown4 hb4 hg4 _; have hz4 := hg4.size; have hd4 := hd3.out.belowB hb4 (by omega); have it4 := blk_belowB it3.out hb4 (by omega); obtain ⟨A4, c4, h40, h4c, h4r, h4z, h4n⟩ := hd4; have q0 := (blk_cell h40 0).trans rfl; have q1 := (blk_cell h40 1).trans rfl; have HD4 := Lib.hid (Rd.mk' h40 rfl h4c h4r h4z h4n); clear h40 h4r h4z h4n; replace it4 := Lib.hid it4; have HB4 := Lib.hid (Below.trans HB1.out (below_two hg3.out hb4 (by omega) (by omega) (by omega)))))
          go_roundw
          case rel => exact ⟨k + 1, l ++ [x], r', by omega, by have := HX.out.2.1; simp; omega, HU.out.1, HU.out.2.1, by have := HU.out.2.2.1; have := hrl; omega, fun h => HX.out.2.2.2.1.snoc (fun e => by
            obtain ⟨_, n1, n2, n3, n4⟩ := HU.out.2.2.2 e
            have h1 := HLE.out.1; have h2 := HLE.out.2
            unfold letC at h1; omega), OwnA.snoc hcl.out hca.out HX.out.2.2.2.1 hown4 (hx3.out.grown hf3.out hg4 HOB.out), HD4.out, it4.out, HB4.out, by omega⟩
          case measure => have := iter_pos it4.out; rw [this, hpos]; omega
      · obtain rfl : k = f.size := by omega
        have hnx := fun ty => run_next_end_at (P := Tryd.prog) wr (p + 1) f f.size ty hit hlt
        have hP : unpackP f b = if r.length = 0 then (0, l) else (2, []) := by unfold unpackP; rw [if_pos HF.out, hu]
        obtain ⟨A4, c4, h40, h4c, h4r, h4z, h4n⟩ := hrd
        have q0 := (blk_cell h40 0).trans rfl
        have q1 := (blk_cell h40 1).trans rfl
        have HO := Lib.hid hown
        have HBR := Lib.hid hbr
        have HP := Lib.hid hP
        clear h40 h4r h4z h4n hown hbr hP hit hpos hu hnb hlk
        by_cases h0 : r.length = 0
        · have HQ := Lib.hid (HP.out.trans (if_pos h0))
          go_wp2
          go_ret2
          exact UnpP.ok HQ.out HO.out HBR.out
        · have HQ := Lib.hid (HP.out.trans (if_neg h0))
          go_wp2
          go_ret2
          exact UnpP.err HQ.out HBR.out
end Go.Proofs.YtinnaiofgbjicaaDoor
