/- A client commits a surface that has no image, walked. -/
import Derived.Test.YtbkhcdmmnlkhdaaGreatSurC
import Derived.Test.YtbkhcdmmnlkhdaaGreatStoA
namespace Go.Proofs.YtbkhcdmmnlkhdaaGreat
open Go.RowKit Go.Maps Go.Proofs.YtbkhcdmmnlkhdaaGreatW.PrintWords
set_option linter.unusedSimpArgs false
set_option linter.unusedVariables false
set_option maxRecDepth 1000000
theorem belowX {B : Nat} {a w : World} {x : Ext} (h : Below B a w) (hB : B ≤ w.heap.size) : Below B a (ext w x) := h.trans ((below_ext w x).mono hB)
theorem keepA2 {w : World} {b o : Nat} {v : Value} {o1 o2 : Obj} (h : (w.alloc o1).cell? ⟨b, o, none⟩ = some v) (hb : b < w.heap.size) : (w.alloc o2).cell? ⟨b, o, none⟩ = some v := by
  have e : ∀ x : Obj, (w.alloc x).cell? ⟨b, o, none⟩ = w.cell? ⟨b, o, none⟩ := fun x => (Below.alloc (Below.refl w.heap.size w) (Nat.le_refl _) x).cell (p := ⟨b, o, none⟩) hb
  rw [e, ← e o1]; exact h
theorem shN_mem {S : List (Int × Sh)} {x : Int} {sh : Sh} (hn : (S.map (·.1)).Nodup) (h : (x, sh) ∈ S) : lookN (shN S) x = some sh.b := by
  have hm : (x, sh.b) ∈ shN S := List.mem_map.2 ⟨(x, sh), h, rfl⟩
  exact lookN_of (e := (x, sh.b)) (by rw [shN_keys]; exact hn) hm
/-- What is effected: a state without an image is shown, of no buffer. -/
def EffN (w : World) (A : Option Addr) : Prop := ∃ g cs, A = some ⟨g, 0, none⟩ ∧ w.heap[g]? = some (.cells cs 79 (0, 0)) ∧ cs[0]? = some (.int .i64 0) ∧ cs[2]? = some (.pointer none) ∧ cs[15]? = some (.int .i64 (-1))
set_option maxHeartbeats 4000000 in
theorem cli_commitsN (c : Nat) (s : CS) (r : Rq) (w : World) (h : Cli w c s) (hr : RBd r) (sh : Sh) (he : (r.id, sh) ∈ s.S) (ha : sh.att = -1) (hc : sh.com = -1) (hsa : sh.sf.att = none) (hsn : sh.sf.now.im = none) :
    Calls Tryz.prog 60 #[(.pointer (some ⟨c, 0, none⟩)), r.v] w fun e w' => ∃ A2, e = .returned (.agg #[.slice none 0 0, .slice A2 1 1, .int .i64 (0)]) ∧ EffN w' A2 ∧ KeepF (s.foot c) w w' := by
  obtain ⟨D, hown, hL⟩ := h.smap
  have hid := hr.id
  have hwf : (Lit.int .i64 r.id).wf = true := WalkArith.wf_i64 (by omega)
  have hlk := fun W (hb : Below w.heap.size w W) => look_sh (hown.kept (row := none) (grown_below hb _) (by simp)) hL r.id sh.b (shN_mem h.skeys he) hwf
  have hsh := h.shs _ he
  have hsu := h.sus _ he
  have hc2 : w.cell? ⟨c, 2, none⟩ = some (.map (some s.sm)) := blk_cellO h.blk 2 _ rfl
  have hcl := blk_lt h.blk
  have hF1 : s.foot c sh.b := CS.foot_sh he
  have hF2 : s.foot c sh.sb := CS.foot_su he
  obtain ⟨b, sb, att, com, ord, ov, sf⟩ := sh
  simp only at ha hc hsa hsn hlk hsh hsu hF1 hF2
  subst ha hc
  have hne : b ≠ sb := blk_ne hsh hsu (by decide)
  have hbl := blk_lt hsh
  have hsl := blk_lt hsu
  have HSH := Lib.hid hsh
  have HSU := Lib.hid hsu
  have HF1 := Lib.hid hF1
  have HF2 := Lib.hid hF2
  have s0 : w.cell? ⟨b, 0, none⟩ = some (.pointer (some ⟨sb, 0, none⟩)) := blk_cellO hsh 0 _ rfl
  have cC := fun W (e : W.heap[sb]? = w.heap[sb]?) => surf_CommitN sb sf W (e.trans hsu) hsa hsn
  have hob : (Sh.obj ⟨b, sb, -1, -1, ord, ov, sf⟩) = .cells #[(.pointer (some ⟨sb, 0, none⟩)), .int .i64 (-1), .int .i64 (-1), .int .i64 ord, .int .i64 ov] 179 (0, 0) := rfl
  obtain ⟨⟨fA, fn, fc⟩, hfr⟩ : ∃ f, sf.fr = f := ⟨_, rfl⟩
  rw [hfr] at cC
  clear hown hL hsh hsu hF1 hF2 he h hr
  unfold Rq.v Rq.cells
  go_enter Tryz.func60, Tryz.ntmps60
  go_wp2_with fail
  have hlx := fun x => hlk (ext ((w.alloc (.cells r.cells 34)).alloc (.cells #[.slice none 0 0, .slice none 0 0, .int .i64 0] 98)) x) (belowX (B := w.heap.size) (show Below w.heap.size w ((w.alloc (.cells r.cells 34)).alloc (.cells #[.slice none 0 0, .slice none 0 0, .int .i64 0] 98)) from by (repeat (first | (with_reducible exact Below.refl _ _) | ((with_reducible refine Below.alloc ?_ ?hB _); (case hB => (first | omega | (simp; done) | (simp; omega)))) | ((with_reducible refine Below.setCell ?_ ?hB _); (case hB => (first | omega | (simp; done) | (simp; omega)))) | (with_reducible refine Below.drew ?_) | ((with_reducible refine below_ext_of ?_ ?hB); (case hB => (first | omega | (simp; done) | (simp; omega)))) | ((with_reducible refine Below.trans ?_ (Below.mono (by assumption) ?hB)); (case hB => (first | omega | (simp; done) | (simp; omega))))))) (by simp; omega))
  unfold Rq.cells at hlx
  (refine wp_region_ext_lit (by kernel_rfl) (by kernel_rfl) ?_; (repeat (go_big_quiet_step ((fail)))); refine wpQuiet_nil ?_; intro w1 hb_w1; obtain ⟨hc_w1, hf_w1⟩ := bcell hb_w1; have hz_w1 := hb_w1.size; (try simp only [World.size_alloc, World.size_setCell, World.size_drew] at hz_w1))
  have hb01 : Below w.heap.size w w1 := by (repeat (first | (with_reducible exact Below.refl _ _) | ((with_reducible refine Below.alloc ?_ ?hB _); (case hB => (first | omega | (simp; done) | (simp; omega)))) | ((with_reducible refine Below.setCell ?_ ?hB _); (case hB => (first | omega | (simp; done) | (simp; omega)))) | (with_reducible refine Below.drew ?_) | ((with_reducible refine below_ext_of ?_ ?hB); (case hB => (first | omega | (simp; done) | (simp; omega)))) | ((with_reducible refine Below.trans ?_ (Below.mono (by assumption) ?hB)); (case hB => (first | omega | (simp; done) | (simp; omega))))))
  have hS1 := (hb01.block b hbl).trans HSH.out
  have hB1 : w1.heap[w.heap.size]? = some (.cells r.cells 34 (0, 0)) := (hb_w1.block w.heap.size (by simp; omega)).trans (blk_alloc (blk_new w (.cells r.cells 34)) _)
  have hT1 : w1.heap[w.heap.size + 1]? = some (.cells #[.slice none 0 0, .slice none 0 0, .int .i64 0] 98 (0, 0)) := (hb_w1.block (w.heap.size + 1) (by simp)).trans (by
    have := blk_new (w.alloc (.cells r.cells 34)) (.cells #[.slice none 0 0, .slice none 0 0, .int .i64 0] 98)
    rwa [World.size_alloc] at this)
  replace hS1 := Lib.hid hS1
  replace hB1 := Lib.hid hB1
  replace hT1 := Lib.hid hT1
  go_wp2_with (first | (go_at_call 95; (with_reducible refine (cC _ ?_).mono ?_); (focus (exact hb01.block sb hsl)); rintro e w3 ⟨⟨dA, dn, dc⟩, rfl, hsu3, hod3, hk3⟩; have hz3 := hk3.size; have hS3 := Lib.hid (hk3.blk hS1.out hne); have hB3 := Lib.hid (hk3.blk hB1.out (by omega)); have hT3 := Lib.hid (hk3.blk hT1.out (by omega)); have s0 : w3.cell? ⟨b, 0, none⟩ = some (.pointer (some ⟨sb, 0, none⟩)) := blk_cellO hS3.out 0 _ rfl; have s1 : w3.cell? ⟨b, 1, none⟩ = some (.int .i64 (-1)) := blk_cellO hS3.out 1 _ rfl; have s2 : w3.cell? ⟨b, 2, none⟩ = some (.int .i64 (-1)) := blk_cellO hS3.out 2 _ rfl; have s3 : w3.cell? ⟨b, 3, none⟩ = some (.int .i64 ord) := blk_cellO hS3.out 3 _ rfl; have s4 : w3.cell? ⟨b, 4, none⟩ = some (.int .i64 ov) := blk_cellO hS3.out 4 _ rfl; have b1 : w3.cell? ⟨w.heap.size, 1, none⟩ = some (.int .i64 r.id) := blk_cellO hB3.out 1 _ rfl; have hb3l : b < w3.heap.size := blk_lt hS3.out; have hB3l : w.heap.size < w3.heap.size := blk_lt hB3.out))
  (refine wp_region_ext_lit (by kernel_rfl) (by kernel_rfl) ?_; (repeat (go_big_quiet_step ((fail)))); refine wpQuiet_nil ?_; intro w4 hb_w4; obtain ⟨hc_w4, hf_w4⟩ := bcell hb_w4; have hz_w4 := hb_w4.size; (try simp only [World.size_alloc, World.size_setCell, World.size_drew] at hz_w4))
  have hD4 : w4.heap[w3.heap.size]? = some (.cells #[.slice dA dn dc, .slice fA fn fc, .int .i64 0] 187 (0, 0)) := (hb_w4.block w3.heap.size (by simp)).trans (blk_new w3 _)
  have hb34 : Below w3.heap.size w3 w4 := by (repeat (first | (with_reducible exact Below.refl _ _) | ((with_reducible refine Below.alloc ?_ ?hB _); (case hB => (first | omega | (simp; done) | (simp; omega)))) | ((with_reducible refine Below.setCell ?_ ?hB _); (case hB => (first | omega | (simp; done) | (simp; omega)))) | (with_reducible refine Below.drew ?_) | ((with_reducible refine below_ext_of ?_ ?hB); (case hB => (first | omega | (simp; done) | (simp; omega)))) | ((with_reducible refine Below.trans ?_ (Below.mono (by assumption) ?hB)); (case hB => (first | omega | (simp; done) | (simp; omega))))))
  have hU4 := (hb34.block sb (by omega)).trans hsu3
  have hS4 := Lib.hid ((hb34.block b hb3l).trans hS3.out)
  have hB4 := Lib.hid ((hb34.block w.heap.size hB3l).trans hB3.out)
  have hT4 := Lib.hid ((hb34.block (w.heap.size + 1) (by omega)).trans hT3.out)
  have d0 : w4.cell? ⟨w3.heap.size, 0, none⟩ = some (.slice dA dn dc) := blk_cellO hD4 0 _ rfl
  have d1 : w4.cell? ⟨w3.heap.size, 1, none⟩ = some (.slice fA fn fc) := blk_cellO hD4 1 _ rfl
  have e0 : w4.cell? ⟨b, 0, none⟩ = some (.pointer (some ⟨sb, 0, none⟩)) := blk_cellO hS4.out 0 _ rfl
  have e2 : w4.cell? ⟨b, 2, none⟩ = some (.int .i64 (-1)) := blk_cellO hS4.out 2 _ rfl
  have e3 : w4.cell? ⟨b, 3, none⟩ = some (.int .i64 ord) := blk_cellO hS4.out 3 _ rfl
  have e4 : w4.cell? ⟨b, 4, none⟩ = some (.int .i64 ov) := blk_cellO hS4.out 4 _ rfl
  have c1 : w4.cell? ⟨w.heap.size, 1, none⟩ = some (.int .i64 r.id) := blk_cellO hB4.out 1 _ rfl
  have hz4 : w3.heap.size < w4.heap.size := blk_lt hD4
  have cS := fun x0 x => surf_StateF sb (nxN sf.p) _ (ext (ext w4 x0) x) (((below_ext (ext w4 x0) x).block sb (by rw [ext_size]; omega)).trans (((below_ext w4 x0).block sb (by omega)).trans hU4)) rfl rfl
  unfold St.v nxN St.l at cS
  replace hU4 := Lib.hid hU4
  replace hD4 := Lib.hid hD4
  have hdz : w4.drew.heap.size = w4.heap.size := rfl
  clear hc_w4 hf_w4 s0 s1 s2 s3 s4 b1 hc_w1 hf_w1
  go_wp2_with fail
  (refine wp_region_alloc 25 24 (by kernel_rfl) (by kernel_rfl) rfl rfl (fun a w => by go_simp; rfl) ?_; simp only [List.take_succ_cons, List.take_zero, List.drop_succ_cons, List.drop_zero]; (repeat (first | (refine firm_made (by rfl) ?_) | (refine firm_skip (by rfl) (by rfl) ?_; simp only [Act.put, List.setIfInBounds_toArray, List.set_cons_zero, List.set_cons_succ]) | (apply firm_step (by rfl) (by rfl) (by rfl); intro x0 K hK; go_big_quiet_op; (first | exact hK _ rfl | (apply Exists.intro; refine ⟨fun x => ?_, ?_⟩; ((first | (go_at_call 97; with_reducible exact ext_call (cS _ _)))); exact hK _ rfl))))); refine firm_nil ?_; intro w6 b6 hb_w6 hbb_w6 ho_w6; obtain ⟨hc_w6, hf_w6⟩ := bcell hb_w6; have hz_w6 := hb_w6.size; (try simp only [World.size_alloc, World.size_setCell, World.size_drew] at hz_w6 hbb_w6); have hl_w6 := heap_lt ho_w6; obtain ⟨hn_w6, hg_w6⟩ := newcell ho_w6; have HO_w6 := Lib.hid ho_w6; clear ho_w6; simp only [Act.put, List.setIfInBounds_toArray, List.set_cons_zero, List.set_cons_succ])
  have hszE : ∀ w, (Go.sizeOf 79).run Tryz.prog w = .ok 20 w := fun w => by kernel_rfl
  refine wpList_store_all rfl rfl b6 79 _ [.int .i64 0, .int .i64 r.id, .pointer none, .int .i64 sf.p.x, .int .i64 sf.p.y, .int .i64 sf.p.sc, .int .i64 sf.p.al, .int .i64 sf.p.cx0, .int .i64 sf.p.cy0, .int .i64 sf.p.cx1, .int .i64 sf.p.cy1, .slice none 0 0, .string sf.p.ti, .slice dA dn dc, .slice fA fn fc, .int .i64 (-1), .int .i64 ord, .int .i64 ov, .int .i64 0, .int .i64 0] ?_ ?_ hszE HO_w6.out (by rfl) (by simp [Value.oneCell']) ?_
  · simp [Act.eval, Act.put]
  · simp [Act.eval, Act.put]
  intro w7 hE7 hg7 hs7
  have hb46 : Below w4.heap.size w4 w6 := by (repeat (first | (with_reducible exact Below.refl _ _) | ((with_reducible refine Below.alloc ?_ ?hB _); (case hB => (first | omega | (simp; done) | (simp; omega)))) | ((with_reducible refine Below.setCell ?_ ?hB _); (case hB => (first | omega | (simp; done) | (simp; omega)))) | (with_reducible refine Below.drew ?_) | ((with_reducible refine below_ext_of ?_ ?hB); (case hB => (first | omega | (simp; done) | (simp; omega)))) | ((with_reducible refine Below.trans ?_ (Below.mono (by assumption) ?hB)); (case hB => (first | omega | (simp; done) | (simp; omega))))))
  have hbb6 : w4.heap.size ≤ b6 := hbb_w6
  have hn6 : ∀ {k : Nat}, k < w4.heap.size → some k ≠ some b6 := fun h e => by injection e with e; omega
  have hb4l : b < w4.heap.size := by omega
  have hS7 := Lib.hid ((hg7.block b (by omega) (hn6 hb4l)).trans ((hb46.block b hb4l).trans hS4.out))
  have hT7 := Lib.hid ((hg7.block (w.heap.size + 1) (by omega) (hn6 (by omega))).trans ((hb46.block (w.heap.size + 1) (by omega)).trans hT4.out))
  have hK37 := Lib.hid ((hk3.below_step hb34).below_step hb46 |>.grown_step hg7 (fun k e hk => absurd hk (by injection e with e; omega)))
  have hz7 : w4.heap.size ≤ w7.heap.size := by omega
  have hE7l := blk_lt hE7
  replace hE7 := Lib.hid hE7
  have s0 : w7.cell? ⟨b, 0, none⟩ = some (.pointer (some ⟨sb, 0, none⟩)) := blk_cellO hS7.out 0 _ rfl
  have s3 : w7.cell? ⟨b, 3, none⟩ = some (.int .i64 ord) := blk_cellO hS7.out 3 _ rfl
  have s4 : w7.cell? ⟨b, 4, none⟩ = some (.int .i64 ov) := blk_cellO hS7.out 4 _ rfl
  have f3 : w7.frozen? ⟨b, 3, none⟩ = false := blk_frozen hS7.out 3
  have f4 : w7.frozen? ⟨b, 4, none⟩ = false := blk_frozen hS7.out 4
  have t0 : w7.cell? ⟨w.heap.size + 1, 0, none⟩ = some (.slice none 0 0) := blk_cellO hT7.out 0 _ rfl
  have t1 : w7.cell? ⟨w.heap.size + 1, 1, none⟩ = some (.slice none 0 0) := blk_cellO hT7.out 1 _ rfl
  have t2 : w7.cell? ⟨w.heap.size + 1, 2, none⟩ = some (.int .i64 0) := blk_cellO hT7.out 2 _ rfl
  have u0 : w7.frozen? ⟨w.heap.size + 1, 0, none⟩ = false := blk_frozen hT7.out 0
  have u1 : w7.frozen? ⟨w.heap.size + 1, 1, none⟩ = false := blk_frozen hT7.out 1
  have u2 : w7.frozen? ⟨w.heap.size + 1, 2, none⟩ = false := blk_frozen hT7.out 2
  have hb7l : b < w7.heap.size := by omega
  have hT7l : w.heap.size + 1 < w7.heap.size := by omega
  have hne2 : b ≠ w.heap.size + 1 := by omega
  clear hc_w6 hf_w6 hn_w6 hg_w6 hl_w6 hb_w6 hb_w4 d0 d1 e0 e2 e3 e4 c1 hg7 hb46 hk3 hb34 cS
  have hagE : ∀ w, (isAgg 79).run Tryz.prog w = .ok true w := fun w => by kernel_rfl
  have hzE : ∀ w, (zeroValue 79).run Tryz.prog w = .ok (.agg #[.int .i64 0, .int .i64 0, .pointer none, .int .i64 0, .int .i64 0, .int .i64 0, .int .i64 0, .int .i64 0, .int .i64 0, .int .i64 0, .int .i64 0, .slice none 0 0, .string ⟨#[]⟩, .slice none 0 0, .slice none 0 0, .int .i64 0, .int .i64 0, .int .i64 0, .int .i64 0, .int .i64 0]) w := fun w => by kernel_rfl
  have hb6b : b6 ≠ b := by omega
  have HF := Lib.hid hszE
  have HG := Lib.hid hagE
  have HZ := Lib.hid hzE
  clear hszE hagE hzE
  go_wp2_with (first
    | (refine wpList_load_all rfl rfl b6 79 [.int .i64 0, .int .i64 r.id, .pointer none, .int .i64 sf.p.x, .int .i64 sf.p.y, .int .i64 sf.p.sc, .int .i64 sf.p.al, .int .i64 sf.p.cx0, .int .i64 sf.p.cy0, .int .i64 sf.p.cx1, .int .i64 sf.p.cy1, .slice none 0 0, .string sf.p.ti, .slice dA dn dc, .slice fA fn fc, .int .i64 (-1), .int .i64 ord, .int .i64 ov, .int .i64 0, .int .i64 0] ?_ HG.out HF.out ?_ ?_; (focus (simp [Act.eval, Act.put]; done)); (focus (exact (heap_setCell_other _ ⟨b, 4, none⟩ b6 _ hb6b).trans ((heap_setCell_other _ ⟨b, 3, none⟩ b6 _ hb6b).trans hE7.out))))
    | (refine wpList_buildSlice1 rfl rfl Tryz.underlying31 [.int .i64 0, .int .i64 r.id, .pointer none, .int .i64 sf.p.x, .int .i64 sf.p.y, .int .i64 sf.p.sc, .int .i64 sf.p.al, .int .i64 sf.p.cx0, .int .i64 sf.p.cy0, .int .i64 sf.p.cx1, .int .i64 sf.p.cy1, .slice none 0 0, .string sf.p.ti, .slice dA dn dc, .slice fA fn fc, .int .i64 (-1), .int .i64 ord, .int .i64 ov, .int .i64 0, .int .i64 0] ?_ HF.out _ HZ.out (by simp) (by simp) ?_; (focus (simp [Act.eval, Act.put]; done))))
  (refine bodyPost_ret (by simp [results, Tryz.results60, go_sem, ↓IntWalk.iteOmega, *]; rfl) rfl ?_)
  refine ⟨_, rfl, ⟨w6.heap.size, #[.int .i64 0, .int .i64 r.id, .pointer none, .int .i64 sf.p.x, .int .i64 sf.p.y, .int .i64 sf.p.sc, .int .i64 sf.p.al, .int .i64 sf.p.cx0, .int .i64 sf.p.cy0, .int .i64 sf.p.cx1, .int .i64 sf.p.cy1, .slice none 0 0, .string sf.p.ti, .slice dA dn dc, .slice fA fn fc, .int .i64 (-1), .int .i64 ord, .int .i64 ov, .int .i64 0, .int .i64 0], rfl, ?_, rfl, rfl, rfl⟩, ?_⟩
  · refine (heap_setCell_other _ ⟨w.heap.size + 1, 2, none⟩ _ _ (by show w6.heap.size ≠ w.heap.size + 1; omega)).trans ?_
    refine (heap_setCell_other _ ⟨w.heap.size + 1, 1, none⟩ _ _ (by show w6.heap.size ≠ w.heap.size + 1; omega)).trans ?_
    refine (heap_setCell_other _ ⟨w.heap.size + 1, 0, none⟩ _ _ (by show w6.heap.size ≠ w.heap.size + 1; omega)).trans ?_
    have := blk_new ((w7.setCell ⟨b, 3, none⟩ (.int .i64 0)).setCell ⟨b, 4, none⟩ (.int .i64 0)) (.cells #[.int .i64 0, .int .i64 r.id, .pointer none, .int .i64 sf.p.x, .int .i64 sf.p.y, .int .i64 sf.p.sc, .int .i64 sf.p.al, .int .i64 sf.p.cx0, .int .i64 sf.p.cy0, .int .i64 sf.p.cx1, .int .i64 sf.p.cy1, .slice none 0 0, .string sf.p.ti, .slice dA dn dc, .slice fA fn fc, .int .i64 (-1), .int .i64 ord, .int .i64 ov, .int .i64 0, .int .i64 0] 79)
    simp only [World.size_setCell, hs7] at this
    exact this
  · have k7 : KeepF (s.foot c) w w7 := (KeepF.of_below' hb01).trans hK37.out (fun k hk e => by subst e; exact HF2.out)
    refine KeepF.setCell (KeepF.setCell (KeepF.setCell (KeepF.alloc (KeepF.setCell (KeepF.setCell k7 b 3 _ (fun _ => HF1.out)) b 4 _ (fun _ => HF1.out)) _) _ 0 _ (fun h => ?_)) _ 1 _ (fun h => ?_)) _ 2 _ (fun h => ?_)
    all_goals exact absurd h (by omega)
end Go.Proofs.YtbkhcdmmnlkhdaaGreat
