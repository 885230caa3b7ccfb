/- A surface that has no image, committed, walked. -/
import Derived.Test.YtbkhcdmmnlkhdaaGreatSurA
namespace Go.Proofs.YtbkhcdmmnlkhdaaGreat
open Go.RowKit Go.Maps Go.Proofs.YtbkhcdmmnlkhdaaGreatW.PrintWords
set_option linter.unusedSimpArgs false
set_option linter.unusedVariables false
set_option maxRecDepth 1000000
theorem keepA {w : World} {p : Addr} {v : Value} (h : w.cell? p = some v) (o : Obj) : (w.alloc o).cell? p = some v := pw_cell_below (Below.alloc (Below.refl _ _) (Nat.le_refl _) _) h
theorem keepF {w : World} {b : Nat} {r : Bool} (h : w.frozen? ⟨b, 0, none⟩ = r) (hb : b < w.heap.size) (o : Obj) : (w.alloc o).frozen? ⟨b, 0, none⟩ = r := ((Below.alloc (Below.refl _ _) (Nat.le_refl _) o).frozen (p := ⟨b, 0, none⟩) hb).trans h
def cv (w : World) (b : Nat) : Value := (w.cell? ⟨b, 0, none⟩).getD undef
theorem cv_of {w : World} {b : Nat} {v : Value} (h : w.cell? ⟨b, 0, none⟩ = some v) : w.cell? ⟨b, 0, none⟩ = some (cv w b) := by unfold cv; rw [h]; rfl
theorem keepVb {w w1 : World} {b : Nat} (hb : Below w.heap.size w w1) (h : w.cell? ⟨b, 0, none⟩ = some (cv w b)) : w1.cell? ⟨b, 0, none⟩ = some (cv w1 b) := cv_of (pw_cell_below hb h)
theorem keepVa {w : World} {b : Nat} (h : w.cell? ⟨b, 0, none⟩ = some (cv w b)) (o : Obj) : (w.alloc o).cell? ⟨b, 0, none⟩ = some (cv (w.alloc o) b) := cv_of (keepA h o)
theorem keepVs {w : World} {b : Nat} (h : w.cell? ⟨b, 0, none⟩ = some (cv w b)) (v : Value) : (w.setCell ⟨b, 0, none⟩ v).cell? ⟨b, 0, none⟩ = some (cv (w.setCell ⟨b, 0, none⟩ v) b) := cv_of (World.cell?_setCell_same _ _ _ h)
theorem keepS {w : World} {b c o : Nat} {v u : Value} (h : w.cell? ⟨c, o, none⟩ = some u) (hne : c ≠ b) : (w.setCell ⟨b, 0, none⟩ v).cell? ⟨c, o, none⟩ = some u := by
  rw [cell_set_ite, if_neg (fun e => hne e.1.symm)]; exact h
theorem keepSf {w : World} {b : Nat} {r : Bool} {v : Value} (h : w.frozen? ⟨b, 0, none⟩ = r) : (w.setCell ⟨b, 0, none⟩ v).frozen? ⟨b, 0, none⟩ = r := by
  rw [← h]; simp [go_sem]
def nxN (s : St) : St := { s with im := none, opq := ⟨none, 0, 0⟩ }
def sfN (s : Sf) : Sf := ⟨nxN s.p, nxN s.p, none, ⟨none, 0, 0⟩, s.d0, s.d1, s.d2, s.d3, ⟨none, 0, 0⟩⟩
theorem blk_sets {b : Nat} {t : TypeId} (l : List (Nat × Value)) : ∀ {w : World} {cs : Array Value}, w.heap[b]? = some (.cells cs t (0, 0)) → (l.foldl (fun w e => w.setCell ⟨b, e.1, none⟩ e.2) w).heap[b]? = some (.cells (l.foldl (fun c e => c.setIfInBounds e.1 e.2) cs) t (0, 0)) := by
  induction l with
  | nil => intro w cs h; exact h
  | cons e l ih => intro w cs h; exact ih (blk_set h e.1 e.2)
def stN (x' y' sc' al' e0' e1' e2' e3' : Int) (ti' : ByteArray) : List (Nat × Value) := [(0, .pointer none), (1, .int .i64 x'), (2, .int .i64 y'), (3, .int .i64 sc'), (4, .int .i64 al'), (5, .int .i64 e0'), (6, .int .i64 e1'), (7, .int .i64 e2'), (8, .int .i64 e3'), (9, .slice none 0 0), (10, .string ti'), (11, .pointer none), (12, .int .i64 x'), (13, .int .i64 y'), (14, .int .i64 sc'), (15, .int .i64 al'), (16, .int .i64 e0'), (17, .int .i64 e1'), (18, .int .i64 e2'), (19, .int .i64 e3'), (20, .slice none 0 0), (21, .string ti'), (23, .slice none 0 0), (28, .slice none 0 0)]
theorem stN_arr (x y sc al e0 e1 e2 e3 : Int) (oA : Option Addr) (on oc : Nat) (ti : ByteArray) (im' : Option Addr) (x' y' sc' al' e0' e1' e2' e3' : Int) (oA' : Option Addr) (on' oc' : Nat) (ti' : ByteArray) (dA : Option Addr) (dn dc : Nat) (d0 d1 d2 d3 : Int) (fA : Option Addr) (fn fc : Nat) :
    (stN x' y' sc' al' e0' e1' e2' e3' ti').foldl (fun c e => c.setIfInBounds e.1 e.2) (Sf.l ⟨⟨none, x, y, sc, al, e0, e1, e2, e3, ⟨oA, on, oc⟩, ti⟩, ⟨im', x', y', sc', al', e0', e1', e2', e3', ⟨oA', on', oc'⟩, ti'⟩, none, ⟨dA, dn, dc⟩, d0, d1, d2, d3, ⟨fA, fn, fc⟩⟩).toArray = (sfN ⟨⟨none, x, y, sc, al, e0, e1, e2, e3, ⟨oA, on, oc⟩, ti⟩, ⟨im', x', y', sc', al', e0', e1', e2', e3', ⟨oA', on', oc'⟩, ti'⟩, none, ⟨dA, dn, dc⟩, d0, d1, d2, d3, ⟨fA, fn, fc⟩⟩).l.toArray := by
  simp only [stN, List.foldl, Sf.l, St.l, sfN, nxN, List.cons_append, List.nil_append, List.setIfInBounds_toArray, List.set_cons_zero, List.set_cons_succ]
set_option maxHeartbeats 4000000 in
theorem surf_CommitN (sb : Nat) (sf : Sf) (w : World) (h : w.heap[sb]? = some (.cells sf.l.toArray 228 (0, 0))) (ha : sf.att = none) (hn : sf.now.im = none) : Calls Tryz.prog 95 #[(.pointer (some ⟨sb, 0, none⟩))] w fun e w' => ∃ d : Sl, e = .returned (.tuple #[.agg #[.slice d.A d.n d.c, .slice sf.fr.A sf.fr.n sf.fr.c, .int .i64 0], .int .i64 0]) ∧ w'.heap[sb]? = some (.cells (sfN sf).l.toArray 228 (0, 0)) ∧ OwnG RE w' w.heap.size 26 d.v (ofL [⟨0, 0, 0, 0⟩, ⟨0, 0, 0, 0⟩]) ∧ KeepF (fun k => k = sb) w w' := by
  obtain ⟨⟨im, x, y, sc, al, e0, e1, e2, e3, ⟨oA, on, oc⟩, ti⟩, ⟨im', x', y', sc', al', e0', e1', e2', e3', ⟨oA', on', oc'⟩, ti'⟩, att, ⟨dA, dn, dc⟩, d0, d1, d2, d3, ⟨fA, fn, fc⟩⟩ := sf
  simp only at ha hn
  subst ha hn
  have hsb := blk_lt h
  have g0 : w.cell? ⟨sb, 0, none⟩ = some (.pointer none) := blk_cellO h 0 _ rfl
  have g1 : w.cell? ⟨sb, 1, none⟩ = some (.int .i64 x) := blk_cellO h 1 _ rfl
  have g2 : w.cell? ⟨sb, 2, none⟩ = some (.int .i64 y) := blk_cellO h 2 _ rfl
  have g3 : w.cell? ⟨sb, 3, none⟩ = some (.int .i64 sc) := blk_cellO h 3 _ rfl
  have g4 : w.cell? ⟨sb, 4, none⟩ = some (.int .i64 al) := blk_cellO h 4 _ rfl
  have g5 : w.cell? ⟨sb, 5, none⟩ = some (.int .i64 e0) := blk_cellO h 5 _ rfl
  have g6 : w.cell? ⟨sb, 6, none⟩ = some (.int .i64 e1) := blk_cellO h 6 _ rfl
  have g7 : w.cell? ⟨sb, 7, none⟩ = some (.int .i64 e2) := blk_cellO h 7 _ rfl
  have g8 : w.cell? ⟨sb, 8, none⟩ = some (.int .i64 e3) := blk_cellO h 8 _ rfl
  have g9 : w.cell? ⟨sb, 9, none⟩ = some (.slice oA on oc) := blk_cellO h 9 _ rfl
  have g10 : w.cell? ⟨sb, 10, none⟩ = some (.string ti) := blk_cellO h 10 _ rfl
  have g11 : w.cell? ⟨sb, 11, none⟩ = some (.pointer im') := blk_cellO h 11 _ rfl
  have g12 : w.cell? ⟨sb, 12, none⟩ = some (.int .i64 x') := blk_cellO h 12 _ rfl
  have g13 : w.cell? ⟨sb, 13, none⟩ = some (.int .i64 y') := blk_cellO h 13 _ rfl
  have g14 : w.cell? ⟨sb, 14, none⟩ = some (.int .i64 sc') := blk_cellO h 14 _ rfl
  have g15 : w.cell? ⟨sb, 15, none⟩ = some (.int .i64 al') := blk_cellO h 15 _ rfl
  have g16 : w.cell? ⟨sb, 16, none⟩ = some (.int .i64 e0') := blk_cellO h 16 _ rfl
  have g17 : w.cell? ⟨sb, 17, none⟩ = some (.int .i64 e1') := blk_cellO h 17 _ rfl
  have g18 : w.cell? ⟨sb, 18, none⟩ = some (.int .i64 e2') := blk_cellO h 18 _ rfl
  have g19 : w.cell? ⟨sb, 19, none⟩ = some (.int .i64 e3') := blk_cellO h 19 _ rfl
  have g20 : w.cell? ⟨sb, 20, none⟩ = some (.slice oA' on' oc') := blk_cellO h 20 _ rfl
  have g21 : w.cell? ⟨sb, 21, none⟩ = some (.string ti') := blk_cellO h 21 _ rfl
  have g22 : w.cell? ⟨sb, 22, none⟩ = some (.pointer none) := blk_cellO h 22 _ rfl
  have g23 : w.cell? ⟨sb, 23, none⟩ = some (.slice dA dn dc) := blk_cellO h 23 _ rfl
  have g24 : w.cell? ⟨sb, 24, none⟩ = some (.int .i64 d0) := blk_cellO h 24 _ rfl
  have g25 : w.cell? ⟨sb, 25, none⟩ = some (.int .i64 d1) := blk_cellO h 25 _ rfl
  have g26 : w.cell? ⟨sb, 26, none⟩ = some (.int .i64 d2) := blk_cellO h 26 _ rfl
  have g27 : w.cell? ⟨sb, 27, none⟩ = some (.int .i64 d3) := blk_cellO h 27 _ rfl
  have g28 : w.cell? ⟨sb, 28, none⟩ = some (.slice fA fn fc) := blk_cellO h 28 _ rfl
  have z0 := blk_frozen h 0
  have z1 := blk_frozen h 1
  have z2 := blk_frozen h 2
  have z3 := blk_frozen h 3
  have z4 := blk_frozen h 4
  have z5 := blk_frozen h 5
  have z6 := blk_frozen h 6
  have z7 := blk_frozen h 7
  have z8 := blk_frozen h 8
  have z9 := blk_frozen h 9
  have z10 := blk_frozen h 10
  have z11 := blk_frozen h 11
  have z12 := blk_frozen h 12
  have z13 := blk_frozen h 13
  have z14 := blk_frozen h 14
  have z15 := blk_frozen h 15
  have z16 := blk_frozen h 16
  have z17 := blk_frozen h 17
  have z18 := blk_frozen h 18
  have z19 := blk_frozen h 19
  have z20 := blk_frozen h 20
  have z21 := blk_frozen h 21
  have z23 := blk_frozen h 23
  have z28 := blk_frozen h 28
  have HH := Lib.hid h
  have cC := fun W (e : W.heap[sb]? = w.heap[sb]?) => surf_contentN sb W _ (e.trans h) rfl
  have cR := fun W => reg_Area0 none 0 W
  have cL := fun W => surf_alikeN ⟨none, x, y, sc, al, e0, e1, e2, e3, ⟨oA, on, oc⟩, ti⟩ ⟨none, x', y', sc', al', e0', e1', e2', e3', ⟨none, 0, 0⟩, ti'⟩ W rfl
  have cX := fun W => surf_BoxN ⟨none, x, y, sc, al, e0, e1, e2, e3, ⟨oA, on, oc⟩, ti⟩ W rfl
  have cY := fun W => surf_BoxN ⟨none, x', y', sc', al', e0', e1', e2', e3', ⟨none, 0, 0⟩, ti'⟩ W rfl
  have cO := fun A W h => reg_Of A [⟨0, 0, 0, 0⟩, ⟨0, 0, 0, 0⟩] 2 W (by simp) h
  unfold St.v St.l at cL cX cY
  clear h
  go_enter Tryz.func95, Tryz.ntmps95
  go_wp2_with (first | (go_at_call 135; (with_reducible refine (cC _ ?_).mono ?_); (focus (exact (Below.block (show Below w.heap.size w _ by (repeat (first | (with_reducible exact Below.refl _ _) | ((with_reducible refine Below.alloc ?_ ?hB _); (case hB => (first | omega | (simp; done) | (simp; omega)))) | ((with_reducible refine Below.setCell ?_ ?hB _); (case hB => (first | omega | (simp; done) | (simp; omega)))) | (with_reducible refine Below.drew ?_) | ((with_reducible refine below_ext_of ?_ ?hB); (case hB => (first | omega | (simp; done) | (simp; omega)))) | ((with_reducible refine Below.trans ?_ (Below.mono (by assumption) ?hB)); (case hB => (first | omega | (simp; done) | (simp; omega))))))) sb hsb))); rintro e w1 ⟨rfl, rfl⟩))
  go_wp2_with fail
  (refine wp_region_alloc 9 8 (by kernel_rfl) (by kernel_rfl) rfl rfl (fun a w => by go_simp; rfl) ?_; simp only [List.take_succ_cons, List.take_zero, List.drop_succ_cons, List.drop_zero]; (repeat (first | (refine firm_made (by rfl) ?_) | (refine firm_skip (by rfl) (by rfl) ?_; simp only [Act.put, List.setIfInBounds_toArray, List.set_cons_zero, List.set_cons_succ]) | (apply firm_step (by rfl) (by rfl) (by rfl); intro x0 K hK; go_big_quiet_op; (first | exact hK _ rfl | (apply Exists.intro; refine ⟨fun x => ?_, ?_⟩; ((first | (go_at_call 137; with_reducible exact ext_same (cR _)))); exact hK _ rfl))))); refine firm_nil ?_; intro w2 b2 hb_w2 hbb_w2 ho_w2; obtain ⟨hc_w2, hf_w2⟩ := bcell hb_w2; have hz_w2 := hb_w2.size; (try simp only [World.size_alloc, World.size_setCell, World.size_drew] at hz_w2 hbb_w2); have hl_w2 := heap_lt ho_w2; obtain ⟨hn_w2, hg_w2⟩ := newcell ho_w2; have HO_w2 := Lib.hid ho_w2; clear ho_w2; simp only [Act.put, List.setIfInBounds_toArray, List.set_cons_zero, List.set_cons_succ])
  go_wp2_with fail
  (refine wp_region_ext_lit (by kernel_rfl) (by kernel_rfl) ?_; (repeat (go_big_quiet_step (((first | (go_at_call 138; with_reducible exact ext_call (cL _))))))); refine wpQuiet_nil ?_; intro w3 hb_w3; obtain ⟨hc_w3, hf_w3⟩ := bcell hb_w3; have hz_w3 := hb_w3.size; (try simp only [World.size_alloc, World.size_setCell, World.size_drew] at hz_w3))
  have hb03 : Below w.heap.size w w3 := by (repeat (first | (with_reducible exact Below.refl _ _) | ((with_reducible refine Below.alloc ?_ ?hB _); (case hB => (first | omega | (simp; done) | (simp; omega)))) | ((with_reducible refine Below.setCell ?_ ?hB _); (case hB => (first | omega | (simp; done) | (simp; omega)))) | (with_reducible refine Below.drew ?_) | ((with_reducible refine below_ext_of ?_ ?hB); (case hB => (first | omega | (simp; done) | (simp; omega)))) | ((with_reducible refine Below.trans ?_ (Below.mono (by assumption) ?hB)); (case hB => (first | omega | (simp; done) | (simp; omega))))))
  have hs3 := (hb03.block sb hsb).trans HH.out
  have hT3 : w3.heap[w.heap.size + 1]? = some (.cells (St.l ⟨none, x', y', sc', al', e0', e1', e2', e3', ⟨none, 0, 0⟩, ti'⟩).toArray 77 (0, 0)) := by
    refine (hb_w3.block (w.heap.size + 1) (by simp; omega)).trans ?_
    rw [heap_setCell_other _ ⟨b2, 2, none⟩ _ _ (by show w.heap.size + 1 ≠ b2; omega), heap_setCell_other _ ⟨b2, 1, none⟩ _ _ (by show w.heap.size + 1 ≠ b2; omega), heap_setCell_other _ ⟨b2, 0, none⟩ _ _ (by show w.heap.size + 1 ≠ b2; omega)]
    refine (hb_w2.block (w.heap.size + 1) (by simp)).trans ?_
    have := blk_new (w.alloc (Obj.cells #[Value.slice none 0 0, Value.slice none 0 0, Value.int IntKind.i64 0] 187)) (.cells (St.l ⟨none, x', y', sc', al', e0', e1', e2', e3', ⟨none, 0, 0⟩, ti'⟩).toArray 77)
    rw [World.size_alloc] at this
    exact this
  have hR3 : w3.heap[w.heap.size]? = some (.cells #[.slice none 0 0, .slice none 0 0, .int .i64 0] 187 (0, 0)) := by
    refine (hb_w3.block w.heap.size (by simp; omega)).trans ?_
    rw [heap_setCell_other _ ⟨b2, 2, none⟩ _ _ (by show w.heap.size ≠ b2; omega), heap_setCell_other _ ⟨b2, 1, none⟩ _ _ (by show w.heap.size ≠ b2; omega), heap_setCell_other _ ⟨b2, 0, none⟩ _ _ (by show w.heap.size ≠ b2; omega)]
    refine (hb_w2.block w.heap.size (by simp; omega)).trans ?_
    exact blk_alloc (blk_new w (Obj.cells #[Value.slice none 0 0, Value.slice none 0 0, Value.int IntKind.i64 0] 187)) _
  have hD3 : w3.heap[b2]? = some (.cells #[.slice none 0 0, .slice fA fn fc, .int .i64 0] 187 (0, 0)) := by
    refine (hb_w3.block b2 (by simp; omega)).trans ?_
    rw [blk_set (blk_set (blk_set HO_w2.out 0 _) 1 _) 2 _]; rfl
  have pd0 : w3.cell? ⟨b2, 0, none⟩ = some (.slice none 0 0) := blk_cellO hD3 0 _ rfl
  replace pd0 := cv_of pd0
  have pd1 : w3.frozen? ⟨b2, 0, none⟩ = false := blk_frozen hD3 0
  have hb2l := blk_lt hD3
  replace hs3 := Lib.hid hs3
  replace hT3 := Lib.hid hT3
  replace hD3 := Lib.hid hD3
  replace hR3 := Lib.hid hR3
  clear hc_w2 hf_w2 hc_w3 hf_w3 g0 g1 g2 g3 g4 g5 g6 g7 g8 g9 g10 g11 g12 g13 g14 g15 g16 g17 g18 g19 g20 g21 g22 g23 g24 g25 g26 g27 g28 z0 z1 z2 z3 z4 z5 z6 z7 z8 z9 z10 z11 z12 z13 z14 z15 z16 z17 z18 z19 z20 z21 z23 z28
  have p0 : w3.cell? ⟨sb, 0, none⟩ = some (.pointer none) := blk_cellO hs3.out 0 _ rfl
  have p1 : w3.cell? ⟨sb, 1, none⟩ = some (.int .i64 x) := blk_cellO hs3.out 1 _ rfl
  have p2 : w3.cell? ⟨sb, 2, none⟩ = some (.int .i64 y) := blk_cellO hs3.out 2 _ rfl
  have p3 : w3.cell? ⟨sb, 3, none⟩ = some (.int .i64 sc) := blk_cellO hs3.out 3 _ rfl
  have p4 : w3.cell? ⟨sb, 4, none⟩ = some (.int .i64 al) := blk_cellO hs3.out 4 _ rfl
  have p5 : w3.cell? ⟨sb, 5, none⟩ = some (.int .i64 e0) := blk_cellO hs3.out 5 _ rfl
  have p6 : w3.cell? ⟨sb, 6, none⟩ = some (.int .i64 e1) := blk_cellO hs3.out 6 _ rfl
  have p7 : w3.cell? ⟨sb, 7, none⟩ = some (.int .i64 e2) := blk_cellO hs3.out 7 _ rfl
  have p8 : w3.cell? ⟨sb, 8, none⟩ = some (.int .i64 e3) := blk_cellO hs3.out 8 _ rfl
  have p9 : w3.cell? ⟨sb, 9, none⟩ = some (.slice oA on oc) := blk_cellO hs3.out 9 _ rfl
  have p10 : w3.cell? ⟨sb, 10, none⟩ = some (.string ti) := blk_cellO hs3.out 10 _ rfl
  have p11 : w3.cell? ⟨sb, 11, none⟩ = some (.pointer im') := blk_cellO hs3.out 11 _ rfl
  have p12 : w3.cell? ⟨sb, 12, none⟩ = some (.int .i64 x') := blk_cellO hs3.out 12 _ rfl
  have p13 : w3.cell? ⟨sb, 13, none⟩ = some (.int .i64 y') := blk_cellO hs3.out 13 _ rfl
  have p14 : w3.cell? ⟨sb, 14, none⟩ = some (.int .i64 sc') := blk_cellO hs3.out 14 _ rfl
  have p15 : w3.cell? ⟨sb, 15, none⟩ = some (.int .i64 al') := blk_cellO hs3.out 15 _ rfl
  have p16 : w3.cell? ⟨sb, 16, none⟩ = some (.int .i64 e0') := blk_cellO hs3.out 16 _ rfl
  have p17 : w3.cell? ⟨sb, 17, none⟩ = some (.int .i64 e1') := blk_cellO hs3.out 17 _ rfl
  have p18 : w3.cell? ⟨sb, 18, none⟩ = some (.int .i64 e2') := blk_cellO hs3.out 18 _ rfl
  have p19 : w3.cell? ⟨sb, 19, none⟩ = some (.int .i64 e3') := blk_cellO hs3.out 19 _ rfl
  have p20 : w3.cell? ⟨sb, 20, none⟩ = some (.slice oA' on' oc') := blk_cellO hs3.out 20 _ rfl
  have p21 : w3.cell? ⟨sb, 21, none⟩ = some (.string ti') := blk_cellO hs3.out 21 _ rfl
  have p22 : w3.cell? ⟨sb, 22, none⟩ = some (.pointer none) := blk_cellO hs3.out 22 _ rfl
  have p23 : w3.cell? ⟨sb, 23, none⟩ = some (.slice dA dn dc) := blk_cellO hs3.out 23 _ rfl
  have p24 : w3.cell? ⟨sb, 24, none⟩ = some (.int .i64 d0) := blk_cellO hs3.out 24 _ rfl
  have p25 : w3.cell? ⟨sb, 25, none⟩ = some (.int .i64 d1) := blk_cellO hs3.out 25 _ rfl
  have p26 : w3.cell? ⟨sb, 26, none⟩ = some (.int .i64 d2) := blk_cellO hs3.out 26 _ rfl
  have p27 : w3.cell? ⟨sb, 27, none⟩ = some (.int .i64 d3) := blk_cellO hs3.out 27 _ rfl
  have p28 : w3.cell? ⟨sb, 28, none⟩ = some (.slice fA fn fc) := blk_cellO hs3.out 28 _ rfl
  have pt0 : w3.cell? ⟨w.heap.size + 1, 0, none⟩ = some (.pointer none) := blk_cellO hT3.out 0 _ rfl
  have pt1 : w3.cell? ⟨w.heap.size + 1, 1, none⟩ = some (.int .i64 x') := blk_cellO hT3.out 1 _ rfl
  have pt2 : w3.cell? ⟨w.heap.size + 1, 2, none⟩ = some (.int .i64 y') := blk_cellO hT3.out 2 _ rfl
  have pt3 : w3.cell? ⟨w.heap.size + 1, 3, none⟩ = some (.int .i64 sc') := blk_cellO hT3.out 3 _ rfl
  have pt4 : w3.cell? ⟨w.heap.size + 1, 4, none⟩ = some (.int .i64 al') := blk_cellO hT3.out 4 _ rfl
  have pt5 : w3.cell? ⟨w.heap.size + 1, 5, none⟩ = some (.int .i64 e0') := blk_cellO hT3.out 5 _ rfl
  have pt6 : w3.cell? ⟨w.heap.size + 1, 6, none⟩ = some (.int .i64 e1') := blk_cellO hT3.out 6 _ rfl
  have pt7 : w3.cell? ⟨w.heap.size + 1, 7, none⟩ = some (.int .i64 e2') := blk_cellO hT3.out 7 _ rfl
  have pt8 : w3.cell? ⟨w.heap.size + 1, 8, none⟩ = some (.int .i64 e3') := blk_cellO hT3.out 8 _ rfl
  have pt9 : w3.cell? ⟨w.heap.size + 1, 9, none⟩ = some (.slice none 0 0) := blk_cellO hT3.out 9 _ rfl
  have pt10 : w3.cell? ⟨w.heap.size + 1, 10, none⟩ = some (.string ti') := blk_cellO hT3.out 10 _ rfl
  have pd2 : w3.drew.cell? ⟨b2, 0, none⟩ = some (cv w3.drew b2) := pd0
  have hdz : w3.drew.heap.size = w3.heap.size := rfl
  go_wp2_with fail
  go_region_held3 (fun w' => w'.cell? ⟨sb, 0, none⟩ = some (.pointer none) ∧ w'.cell? ⟨sb, 1, none⟩ = some (.int .i64 x) ∧ w'.cell? ⟨sb, 2, none⟩ = some (.int .i64 y) ∧ w'.cell? ⟨sb, 3, none⟩ = some (.int .i64 sc) ∧ w'.cell? ⟨sb, 4, none⟩ = some (.int .i64 al) ∧ w'.cell? ⟨sb, 5, none⟩ = some (.int .i64 e0) ∧ w'.cell? ⟨sb, 6, none⟩ = some (.int .i64 e1) ∧ w'.cell? ⟨sb, 7, none⟩ = some (.int .i64 e2) ∧ w'.cell? ⟨sb, 8, none⟩ = some (.int .i64 e3) ∧ w'.cell? ⟨sb, 9, none⟩ = some (.slice oA on oc) ∧ w'.cell? ⟨sb, 10, none⟩ = some (.string ti) ∧ w'.cell? ⟨w.heap.size + 1, 0, none⟩ = some (.pointer none) ∧ w'.cell? ⟨w.heap.size + 1, 1, none⟩ = some (.int .i64 x') ∧ w'.cell? ⟨w.heap.size + 1, 2, none⟩ = some (.int .i64 y') ∧ w'.cell? ⟨w.heap.size + 1, 3, none⟩ = some (.int .i64 sc') ∧ w'.cell? ⟨w.heap.size + 1, 4, none⟩ = some (.int .i64 al') ∧ w'.cell? ⟨w.heap.size + 1, 5, none⟩ = some (.int .i64 e0') ∧ w'.cell? ⟨w.heap.size + 1, 6, none⟩ = some (.int .i64 e1') ∧ w'.cell? ⟨w.heap.size + 1, 7, none⟩ = some (.int .i64 e2') ∧ w'.cell? ⟨w.heap.size + 1, 8, none⟩ = some (.int .i64 e3') ∧ w'.cell? ⟨w.heap.size + 1, 9, none⟩ = some (.slice none 0 0) ∧ w'.cell? ⟨w.heap.size + 1, 10, none⟩ = some (.string ti') ∧ w'.cell? ⟨b2, 0, none⟩ = some (cv w' b2) ∧ w'.frozen? ⟨b2, 0, none⟩ = false)
    (first | (go_split_ands; exact ⟨keepA (by assumption) _, keepA (by assumption) _, keepA (by assumption) _, keepA (by assumption) _, keepA (by assumption) _, keepA (by assumption) _, keepA (by assumption) _, keepA (by assumption) _, keepA (by assumption) _, keepA (by assumption) _, keepA (by assumption) _, keepA (by assumption) _, keepA (by assumption) _, keepA (by assumption) _, keepA (by assumption) _, keepA (by assumption) _, keepA (by assumption) _, keepA (by assumption) _, keepA (by assumption) _, keepA (by assumption) _, keepA (by assumption) _, keepA (by assumption) _, keepVa (by assumption) _, keepF (by assumption) (by omega) _⟩) | (go_split_ands; exact ⟨pw_cell_below hb5 (by assumption), pw_cell_below hb5 (by assumption), pw_cell_below hb5 (by assumption), pw_cell_below hb5 (by assumption), pw_cell_below hb5 (by assumption), pw_cell_below hb5 (by assumption), pw_cell_below hb5 (by assumption), pw_cell_below hb5 (by assumption), pw_cell_below hb5 (by assumption), pw_cell_below hb5 (by assumption), pw_cell_below hb5 (by assumption), pw_cell_below hb5 (by assumption), pw_cell_below hb5 (by assumption), pw_cell_below hb5 (by assumption), pw_cell_below hb5 (by assumption), pw_cell_below hb5 (by assumption), pw_cell_below hb5 (by assumption), pw_cell_below hb5 (by assumption), pw_cell_below hb5 (by assumption), pw_cell_below hb5 (by assumption), pw_cell_below hb5 (by assumption), pw_cell_below hb5 (by assumption), keepVb hb5 (by assumption), (hb5.frozen (p := ⟨b2, 0, none⟩) (by (first | omega | (simp; done) | (simp; omega)))).trans (by assumption)⟩) | (go_split_ands; exact ⟨pw_cell_below hb6 (by assumption), pw_cell_below hb6 (by assumption), pw_cell_below hb6 (by assumption), pw_cell_below hb6 (by assumption), pw_cell_below hb6 (by assumption), pw_cell_below hb6 (by assumption), pw_cell_below hb6 (by assumption), pw_cell_below hb6 (by assumption), pw_cell_below hb6 (by assumption), pw_cell_below hb6 (by assumption), pw_cell_below hb6 (by assumption), pw_cell_below hb6 (by assumption), pw_cell_below hb6 (by assumption), pw_cell_below hb6 (by assumption), pw_cell_below hb6 (by assumption), pw_cell_below hb6 (by assumption), pw_cell_below hb6 (by assumption), pw_cell_below hb6 (by assumption), pw_cell_below hb6 (by assumption), pw_cell_below hb6 (by assumption), pw_cell_below hb6 (by assumption), pw_cell_below hb6 (by assumption), keepVb hb6 (by assumption), (hb6.frozen (p := ⟨b2, 0, none⟩) (by (first | omega | (simp; done) | (simp; omega)))).trans (by assumption)⟩) | (go_split_ands; exact ⟨pw_cell_below hb7 (by assumption), pw_cell_below hb7 (by assumption), pw_cell_below hb7 (by assumption), pw_cell_below hb7 (by assumption), pw_cell_below hb7 (by assumption), pw_cell_below hb7 (by assumption), pw_cell_below hb7 (by assumption), pw_cell_below hb7 (by assumption), pw_cell_below hb7 (by assumption), pw_cell_below hb7 (by assumption), pw_cell_below hb7 (by assumption), pw_cell_below hb7 (by assumption), pw_cell_below hb7 (by assumption), pw_cell_below hb7 (by assumption), pw_cell_below hb7 (by assumption), pw_cell_below hb7 (by assumption), pw_cell_below hb7 (by assumption), pw_cell_below hb7 (by assumption), pw_cell_below hb7 (by assumption), pw_cell_below hb7 (by assumption), pw_cell_below hb7 (by assumption), pw_cell_below hb7 (by assumption), keepVb hb7 (by assumption), (hb7.frozen (p := ⟨b2, 0, none⟩) (by (first | omega | (simp; done) | (simp; omega)))).trans (by assumption)⟩) | (go_split_ands; exact ⟨keepS (by assumption) (by omega), keepS (by assumption) (by omega), keepS (by assumption) (by omega), keepS (by assumption) (by omega), keepS (by assumption) (by omega), keepS (by assumption) (by omega), keepS (by assumption) (by omega), keepS (by assumption) (by omega), keepS (by assumption) (by omega), keepS (by assumption) (by omega), keepS (by assumption) (by omega), keepS (by assumption) (by omega), keepS (by assumption) (by omega), keepS (by assumption) (by omega), keepS (by assumption) (by omega), keepS (by assumption) (by omega), keepS (by assumption) (by omega), keepS (by assumption) (by omega), keepS (by assumption) (by omega), keepS (by assumption) (by omega), keepS (by assumption) (by omega), keepS (by assumption) (by omega), keepVs (by assumption) _, keepSf (by assumption)⟩) | go_keep)
    (first
      | (go_at_call 141; (with_reducible refine (cX _).mono ?_); rintro e w5 ⟨rfl, hb5⟩; have hz5 := hb5.size; (try simp only [World.size_alloc, World.size_drew] at hz5))
      | (go_at_call 141; (with_reducible refine (cY _).mono ?_); rintro e w6 ⟨rfl, hb6⟩; have hz6 := hb6.size; (try simp only [World.size_alloc, World.size_drew] at hz6))
      | (go_at_call 140; (refine (cO _ _ (RdG.lit _ _ _ (by simp))).mono ?_); rintro e w7 ⟨v7, rfl, ho7, hb7⟩; have hz7 := hb7.size; (try simp only [World.size_alloc, World.size_drew] at hz7); obtain ⟨A7, c7, rfl, -, -⟩ := ho7.rd))
  all_goals
    rename_i hHeldZ
    clear hHeldZ
    have hb37 : Below w3.heap.size w3 w7 := by (repeat (first | (with_reducible exact Below.refl _ _) | ((with_reducible refine Below.alloc ?_ ?hB _); (case hB => (first | omega | (simp; done) | (simp; omega)))) | ((with_reducible refine Below.setCell ?_ ?hB _); (case hB => (first | omega | (simp; done) | (simp; omega)))) | (with_reducible refine Below.drew ?_) | ((with_reducible refine below_ext_of ?_ ?hB); (case hB => (first | omega | (simp; done) | (simp; omega)))) | ((with_reducible refine Below.trans ?_ (Below.mono (by assumption) ?hB)); (case hB => (first | omega | (simp; done) | (simp; omega))))))
    have hz37 := hb37.size
    have hs8 := Lib.hid ((heap_setCell_other w7 ⟨b2, 0, none⟩ sb (.slice A7 (ofL [⟨0, 0, 0, 0⟩, ⟨0, 0, 0, 0⟩]).length c7) (by show sb ≠ b2; omega)).trans ((hb37.block sb (by omega)).trans hs3.out))
    have hT8 := Lib.hid ((heap_setCell_other w7 ⟨b2, 0, none⟩ (w.heap.size + 1) (.slice A7 (ofL [⟨0, 0, 0, 0⟩, ⟨0, 0, 0, 0⟩]).length c7) (by show w.heap.size + 1 ≠ b2; omega)).trans ((hb37.block (w.heap.size + 1) (by omega)).trans hT3.out))
    have hR8 := Lib.hid ((heap_setCell_other w7 ⟨b2, 0, none⟩ w.heap.size (.slice A7 (ofL [⟨0, 0, 0, 0⟩, ⟨0, 0, 0, 0⟩]).length c7) (by show w.heap.size ≠ b2; omega)).trans ((hb37.block w.heap.size (by omega)).trans hR3.out))
    have hD8 := Lib.hid (blk_set ((hb37.block b2 hb2l).trans hD3.out) 0 (.slice A7 (ofL [⟨0, 0, 0, 0⟩, ⟨0, 0, 0, 0⟩]).length c7))
    have hr8 := ho7
    have hK8 : KeepF (fun k => k = sb) w (w7.setCell ⟨b2, 0, none⟩ (.slice A7 (ofL [⟨0, 0, 0, 0⟩, ⟨0, 0, 0, 0⟩]).length c7)) := KeepF.setCell (KeepF.of_below' (hb03.trans (hb37.mono hb03.size))) b2 0 _ (fun h => absurd h (by omega))
    have hO8 : OwnG RE (w7.setCell ⟨b2, 0, none⟩ (.slice A7 (ofL [⟨0, 0, 0, 0⟩, ⟨0, 0, 0, 0⟩]).length c7)) w3.heap.size 26 (.slice A7 (ofL [⟨0, 0, 0, 0⟩, ⟨0, 0, 0, 0⟩]).length c7) (ofL [⟨0, 0, 0, 0⟩, ⟨0, 0, 0, 0⟩]) := by
      refine OwnG.mono (OwnG.same ho7 fun b hb => heap_setCell_other _ ⟨b2, 0, none⟩ b _ ?_) (by simp; omega)
      have := (World.ownsRow.lt ho7 b hb).1
      simp at this
      show b ≠ b2
      omega
    generalize w7.setCell ⟨b2, 0, none⟩ (.slice A7 (ofL [⟨0, 0, 0, 0⟩, ⟨0, 0, 0, 0⟩]).length c7) = W8 at *
    generalize hn7 : (ofL [⟨0, 0, 0, 0⟩, ⟨0, 0, 0, 0⟩]).length = n7 at *
    have HN7 := Lib.hid hn7
    replace hK8 := Lib.hid hK8
    replace hO8 := Lib.hid hO8
    have hsb8 : sb < W8.heap.size := blk_lt hs8.out
    have hT8l : w.heap.size + 1 < W8.heap.size := blk_lt hT8.out
    have hD8l : b2 < W8.heap.size := blk_lt hD8.out
    clear p0 p1 p2 p3 p4 p5 p6 p7 p8 p9 p10 p11 p12 p13 p14 p15 p16 p17 p18 p19 p20 p21 p22 p23 p24 p25 p26 p27 p28 pt0 pt1 pt2 pt3 pt4 pt5 pt6 pt7 pt8 pt9 pt10 hb5 hb6 hb7 ho7 hr8 hn7 pd0 pd1 pd2 hb37 hb03 hb_w2 hb_w3 hn_w2 hg_w2 hl_w2
    have r0 : W8.cell? ⟨sb, 0, none⟩ = some (.pointer none) := blk_cellO hs8.out 0 _ rfl
    have r1 : W8.cell? ⟨sb, 1, none⟩ = some (.int .i64 x) := blk_cellO hs8.out 1 _ rfl
    have r2 : W8.cell? ⟨sb, 2, none⟩ = some (.int .i64 y) := blk_cellO hs8.out 2 _ rfl
    have r3 : W8.cell? ⟨sb, 3, none⟩ = some (.int .i64 sc) := blk_cellO hs8.out 3 _ rfl
    have r4 : W8.cell? ⟨sb, 4, none⟩ = some (.int .i64 al) := blk_cellO hs8.out 4 _ rfl
    have r5 : W8.cell? ⟨sb, 5, none⟩ = some (.int .i64 e0) := blk_cellO hs8.out 5 _ rfl
    have r6 : W8.cell? ⟨sb, 6, none⟩ = some (.int .i64 e1) := blk_cellO hs8.out 6 _ rfl
    have r7 : W8.cell? ⟨sb, 7, none⟩ = some (.int .i64 e2) := blk_cellO hs8.out 7 _ rfl
    have r8 : W8.cell? ⟨sb, 8, none⟩ = some (.int .i64 e3) := blk_cellO hs8.out 8 _ rfl
    have r9 : W8.cell? ⟨sb, 9, none⟩ = some (.slice oA on oc) := blk_cellO hs8.out 9 _ rfl
    have r10 : W8.cell? ⟨sb, 10, none⟩ = some (.string ti) := blk_cellO hs8.out 10 _ rfl
    have r11 : W8.cell? ⟨sb, 11, none⟩ = some (.pointer im') := blk_cellO hs8.out 11 _ rfl
    have r12 : W8.cell? ⟨sb, 12, none⟩ = some (.int .i64 x') := blk_cellO hs8.out 12 _ rfl
    have r13 : W8.cell? ⟨sb, 13, none⟩ = some (.int .i64 y') := blk_cellO hs8.out 13 _ rfl
    have r14 : W8.cell? ⟨sb, 14, none⟩ = some (.int .i64 sc') := blk_cellO hs8.out 14 _ rfl
    have r15 : W8.cell? ⟨sb, 15, none⟩ = some (.int .i64 al') := blk_cellO hs8.out 15 _ rfl
    have r16 : W8.cell? ⟨sb, 16, none⟩ = some (.int .i64 e0') := blk_cellO hs8.out 16 _ rfl
    have r17 : W8.cell? ⟨sb, 17, none⟩ = some (.int .i64 e1') := blk_cellO hs8.out 17 _ rfl
    have r18 : W8.cell? ⟨sb, 18, none⟩ = some (.int .i64 e2') := blk_cellO hs8.out 18 _ rfl
    have r19 : W8.cell? ⟨sb, 19, none⟩ = some (.int .i64 e3') := blk_cellO hs8.out 19 _ rfl
    have r20 : W8.cell? ⟨sb, 20, none⟩ = some (.slice oA' on' oc') := blk_cellO hs8.out 20 _ rfl
    have r21 : W8.cell? ⟨sb, 21, none⟩ = some (.string ti') := blk_cellO hs8.out 21 _ rfl
    have r22 : W8.cell? ⟨sb, 22, none⟩ = some (.pointer none) := blk_cellO hs8.out 22 _ rfl
    have r23 : W8.cell? ⟨sb, 23, none⟩ = some (.slice dA dn dc) := blk_cellO hs8.out 23 _ rfl
    have r24 : W8.cell? ⟨sb, 24, none⟩ = some (.int .i64 d0) := blk_cellO hs8.out 24 _ rfl
    have r25 : W8.cell? ⟨sb, 25, none⟩ = some (.int .i64 d1) := blk_cellO hs8.out 25 _ rfl
    have r26 : W8.cell? ⟨sb, 26, none⟩ = some (.int .i64 d2) := blk_cellO hs8.out 26 _ rfl
    have r27 : W8.cell? ⟨sb, 27, none⟩ = some (.int .i64 d3) := blk_cellO hs8.out 27 _ rfl
    have r28 : W8.cell? ⟨sb, 28, none⟩ = some (.slice fA fn fc) := blk_cellO hs8.out 28 _ rfl
    have z0 : W8.frozen? ⟨sb, 0, none⟩ = false := blk_frozen hs8.out 0
    have z1 : W8.frozen? ⟨sb, 1, none⟩ = false := blk_frozen hs8.out 1
    have z2 : W8.frozen? ⟨sb, 2, none⟩ = false := blk_frozen hs8.out 2
    have z3 : W8.frozen? ⟨sb, 3, none⟩ = false := blk_frozen hs8.out 3
    have z4 : W8.frozen? ⟨sb, 4, none⟩ = false := blk_frozen hs8.out 4
    have z5 : W8.frozen? ⟨sb, 5, none⟩ = false := blk_frozen hs8.out 5
    have z6 : W8.frozen? ⟨sb, 6, none⟩ = false := blk_frozen hs8.out 6
    have z7 : W8.frozen? ⟨sb, 7, none⟩ = false := blk_frozen hs8.out 7
    have z8 : W8.frozen? ⟨sb, 8, none⟩ = false := blk_frozen hs8.out 8
    have z9 : W8.frozen? ⟨sb, 9, none⟩ = false := blk_frozen hs8.out 9
    have z10 : W8.frozen? ⟨sb, 10, none⟩ = false := blk_frozen hs8.out 10
    have z11 : W8.frozen? ⟨sb, 11, none⟩ = false := blk_frozen hs8.out 11
    have z12 : W8.frozen? ⟨sb, 12, none⟩ = false := blk_frozen hs8.out 12
    have z13 : W8.frozen? ⟨sb, 13, none⟩ = false := blk_frozen hs8.out 13
    have z14 : W8.frozen? ⟨sb, 14, none⟩ = false := blk_frozen hs8.out 14
    have z15 : W8.frozen? ⟨sb, 15, none⟩ = false := blk_frozen hs8.out 15
    have z16 : W8.frozen? ⟨sb, 16, none⟩ = false := blk_frozen hs8.out 16
    have z17 : W8.frozen? ⟨sb, 17, none⟩ = false := blk_frozen hs8.out 17
    have z18 : W8.frozen? ⟨sb, 18, none⟩ = false := blk_frozen hs8.out 18
    have z19 : W8.frozen? ⟨sb, 19, none⟩ = false := blk_frozen hs8.out 19
    have z20 : W8.frozen? ⟨sb, 20, none⟩ = false := blk_frozen hs8.out 20
    have z21 : W8.frozen? ⟨sb, 21, none⟩ = false := blk_frozen hs8.out 21
    have z23 : W8.frozen? ⟨sb, 23, none⟩ = false := blk_frozen hs8.out 23
    have z28 : W8.frozen? ⟨sb, 28, none⟩ = false := blk_frozen hs8.out 28
    have rt0 : W8.cell? ⟨w.heap.size + 1, 0, none⟩ = some (.pointer none) := blk_cellO hT8.out 0 _ rfl
    have rt1 : W8.cell? ⟨w.heap.size + 1, 1, none⟩ = some (.int .i64 x') := blk_cellO hT8.out 1 _ rfl
    have rt2 : W8.cell? ⟨w.heap.size + 1, 2, none⟩ = some (.int .i64 y') := blk_cellO hT8.out 2 _ rfl
    have rt3 : W8.cell? ⟨w.heap.size + 1, 3, none⟩ = some (.int .i64 sc') := blk_cellO hT8.out 3 _ rfl
    have rt4 : W8.cell? ⟨w.heap.size + 1, 4, none⟩ = some (.int .i64 al') := blk_cellO hT8.out 4 _ rfl
    have rt5 : W8.cell? ⟨w.heap.size + 1, 5, none⟩ = some (.int .i64 e0') := blk_cellO hT8.out 5 _ rfl
    have rt6 : W8.cell? ⟨w.heap.size + 1, 6, none⟩ = some (.int .i64 e1') := blk_cellO hT8.out 6 _ rfl
    have rt7 : W8.cell? ⟨w.heap.size + 1, 7, none⟩ = some (.int .i64 e2') := blk_cellO hT8.out 7 _ rfl
    have rt8 : W8.cell? ⟨w.heap.size + 1, 8, none⟩ = some (.int .i64 e3') := blk_cellO hT8.out 8 _ rfl
    have rt9 : W8.cell? ⟨w.heap.size + 1, 9, none⟩ = some (.slice none 0 0) := blk_cellO hT8.out 9 _ rfl
    have rt10 : W8.cell? ⟨w.heap.size + 1, 10, none⟩ = some (.string ti') := blk_cellO hT8.out 10 _ rfl
    have rd0 : W8.cell? ⟨b2, 0, none⟩ = some (.slice A7 n7 c7) := blk_cellO hD8.out 0 _ rfl
    have rd1 : W8.cell? ⟨b2, 1, none⟩ = some (.slice fA fn fc) := blk_cellO hD8.out 1 _ rfl
    have rd2 : W8.cell? ⟨b2, 2, none⟩ = some (.int .i64 0) := blk_cellO hD8.out 2 _ rfl
    have ru0 : W8.cell? ⟨w.heap.size, 0, none⟩ = some (.slice none 0 0) := blk_cellO hR8.out 0 _ rfl
    have ru1 : W8.cell? ⟨w.heap.size, 1, none⟩ = some (.slice none 0 0) := blk_cellO hR8.out 1 _ rfl
    have ru2 : W8.cell? ⟨w.heap.size, 2, none⟩ = some (.int .i64 0) := blk_cellO hR8.out 2 _ rfl
    have zu0 : W8.frozen? ⟨w.heap.size, 0, none⟩ = false := blk_frozen hR8.out 0
    have zu1 : W8.frozen? ⟨w.heap.size, 1, none⟩ = false := blk_frozen hR8.out 1
    have zu2 : W8.frozen? ⟨w.heap.size, 2, none⟩ = false := blk_frozen hR8.out 2
    go_wp2_with fail
    (refine bodyPost_ret (by simp [results, Tryz.results95, go_sem, ↓IntWalk.iteOmega, *]; rfl) rfl ?_)
    refine ⟨⟨A7, n7, c7⟩, rfl, ?_, ?_, ?_⟩
    · refine (heap_setCell_other _ ⟨w.heap.size, 2, none⟩ sb _ (by show sb ≠ w.heap.size; omega)).trans ?_
      refine (heap_setCell_other _ ⟨w.heap.size, 1, none⟩ sb _ (by show sb ≠ w.heap.size; omega)).trans ?_
      refine (heap_setCell_other _ ⟨w.heap.size, 0, none⟩ sb _ (by show sb ≠ w.heap.size; omega)).trans ?_
      have := blk_sets (stN x' y' sc' al' e0' e1' e2' e3' ti') hs8.out
      rw [stN_arr] at this
      exact this
    · refine OwnG.mono (OwnG.keepF (F := fun k => k = sb ∨ k = w.heap.size) hO8.out ?_ (fun b hb h => ?_)) (show w.heap.size ≤ w3.heap.size by omega)
      · iterate 27 (refine KeepF.setCell ?_ _ _ _ (fun _ => (by first | exact Or.inl rfl | exact Or.inr rfl)))
        exact KeepF.refl _ _
      · have := (World.ownsRow.lt hO8.out b hb).1
        omega
    · iterate 27 (refine KeepF.setCell ?_ _ _ _ (fun h => (by first | rfl | exact absurd h (Nat.lt_irrefl _))))
      exact hK8.out
end Go.Proofs.YtbkhcdmmnlkhdaaGreat
