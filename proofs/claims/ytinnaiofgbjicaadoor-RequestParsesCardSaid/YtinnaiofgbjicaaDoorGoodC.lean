/- A good request, the document's: walked (part C). -/
import Derived.Test.YtinnaiofgbjicaaDoorGood
namespace Go.Proofs.YtinnaiofgbjicaaDoor
open Go.RowKit Go.Proofs.YtinnaiofgbjicaaDoorW.PrintWords
set_option linter.unusedSimpArgs false
set_option linter.unusedVariables false
set_option maxRecDepth 1000000
set_option maxHeartbeats 4000000 in
theorem good_6 (q : Q9) (hq : q.Bw) (hk : around q.op 19 = 6) (A : Option Addr) (c : Nat) (w : World) (hdc : q.d.length ≤ c) (hrd : ReadsInt w .u8 A q.d.length q.d) : Calls Tryd.prog 13 #[(.agg #[.int .i64 q.op, .int .i64 q.id, .int .i64 q.a, .int .i64 q.b, .int .i64 q.x0, .int .i64 q.y0, .int .i64 q.x1, .int .i64 q.y1, .string q.s, .slice A q.d.length c])] w (GudP w (goodQ q)) := by
  have hg : goodQ q = ⟨6, (1 + around q.id 9), 0, 0, (rSmall q.x0 q.y0 q.x1 q.y1).x0, (rSmall q.x0 q.y0 q.x1 q.y1).y0, (rSmall q.x0 q.y0 q.x1 q.y1).x1, (rSmall q.x0 q.y0 q.x1 q.y1).y1, { data := #[] }, []⟩ := by unfold goodQ; rw [hk]; rfl
  rw [hg]; clear hg
  have cO := fun w => ref_Around q.op 19 w hq.op.1 hq.op.2 (by omega) (by omega)
  rw [hk] at cO; clear hk
  have cI := fun w => ref_Around q.id 9 w hq.id.1 hq.id.2 (by omega) (by omega)
  have hI := around_bd q.id 9 (by omega)
  generalize around q.id 9 = oi at *
  have cSm := fun w => ref_Small q.x0 q.y0 q.x1 q.y1 w hq.x0 hq.y0 hq.x1 hq.y1
  generalize rSmall q.x0 q.y0 q.x1 q.y1 = rs at *
  obtain ⟨op, id, a, b, x0, y0, x1, y1, s, d⟩ := q
  simp only at *
  go_enter Tryd.func13, Tryd.ntmps13
  go_wp2_with fail
  (refine wp_region_alloc 9 8 (by kernel_rfl) (by kernel_rfl) rfl rfl (fun a w => by go_simp; rfl) ?_; simp only [List.take_succ_cons, List.take_zero, List.drop_succ_cons, List.drop_zero]; (repeat (first | (refine firm_made (by rfl) ?_) | (refine firm_skip (by rfl) (by rfl) ?_; simp only [Act.put, List.setIfInBounds_toArray, List.set_cons_zero, List.set_cons_succ]) | (apply firm_step (by rfl) (by rfl) (by rfl); intro x0 K hK; go_big_quiet_op; (first | exact hK _ rfl | (apply Exists.intro; refine ⟨fun x => ?_, ?_⟩; (first | (go_at_call 14; with_reducible exact ext_same (cO _)) | (go_at_call 14; with_reducible exact ext_same (cI _))); exact hK _ rfl))))); refine firm_nil ?_; intro w1 b1 hb_w1 hbb_w1 ho_w1; obtain ⟨hc_w1, hf_w1⟩ := bcell hb_w1; have hz_w1 := hb_w1.size; (try simp only [World.size_alloc, World.size_setCell, World.size_drew] at hz_w1 hbb_w1); have hl_w1 := heap_lt ho_w1; obtain ⟨hn_w1, hg_w1⟩ := newcell ho_w1; clear ho_w1; simp only [Act.put, List.setIfInBounds_toArray, List.set_cons_zero, List.set_cons_succ])
  go_wp2_with (first | (go_at_call 14; (with_reducible refine (cO _).mono ?_); rintro e w1 ⟨rfl, rfl⟩) | (go_at_call 14; (with_reducible refine (cI _).mono ?_); rintro e w1 ⟨rfl, rfl⟩) | (go_at_call 39; (with_reducible refine (cSm _).mono ?_); rintro en w5 ⟨rfl, hb5⟩; obtain ⟨hc5, hf5⟩ := bcell hb5; have hz5 := hb5.size; (try simp only [World.size_alloc, World.size_setCell, World.size_drew] at hz5)))
  refine bodyPost_ret (v := (.agg #[.int .i64 6, .int .i64 (1 + oi), .int .i64 0, .int .i64 0, .int .i64 rs.x0, .int .i64 rs.y0, .int .i64 rs.x1, .int .i64 rs.y1, .string { data := #[] }, .slice none 0 0])) (by simp [results, Tryd.results13, go_sem, ↓IntWalk.iteOmega, *]) rfl ?_
  exact ⟨none, 0, rfl, Nat.le_refl _, reads_nil _ _, by (repeat (first | (with_reducible exact Below.refl _ _) | ((with_reducible refine Below.alloc ?_ ?hB _); (case hB => (first | omega | (simp; done) | (simp; omega)))) | ((with_reducible refine Below.setCell ?_ ?hB _); (case hB => (first | omega | (simp; done) | (simp; omega)))) | (with_reducible refine Below.drew ?_) | ((with_reducible refine below_ext_of ?_ ?hB); (case hB => (first | omega | (simp; done) | (simp; omega)))) | ((with_reducible refine Below.trans ?_ (Below.mono (by assumption) ?hB)); (case hB => (first | omega | (simp; done) | (simp; omega))))))⟩
set_option maxHeartbeats 4000000 in
theorem good_11 (q : Q9) (hq : q.Bw) (hk : around q.op 19 = 11) (A : Option Addr) (c : Nat) (w : World) (hdc : q.d.length ≤ c) (hrd : ReadsInt w .u8 A q.d.length q.d) : Calls Tryd.prog 13 #[(.agg #[.int .i64 q.op, .int .i64 q.id, .int .i64 q.a, .int .i64 q.b, .int .i64 q.x0, .int .i64 q.y0, .int .i64 q.x1, .int .i64 q.y1, .string q.s, .slice A q.d.length c])] w (GudP w (goodQ q)) := by
  have hg : goodQ q = ⟨11, (1 + around q.id 9), 0, 0, (rSmall q.x0 q.y0 q.x1 q.y1).x0, (rSmall q.x0 q.y0 q.x1 q.y1).y0, (rSmall q.x0 q.y0 q.x1 q.y1).x1, (rSmall q.x0 q.y0 q.x1 q.y1).y1, { data := #[] }, []⟩ := by unfold goodQ; rw [hk]; rfl
  rw [hg]; clear hg
  have cO := fun w => ref_Around q.op 19 w hq.op.1 hq.op.2 (by omega) (by omega)
  rw [hk] at cO; clear hk
  have cI := fun w => ref_Around q.id 9 w hq.id.1 hq.id.2 (by omega) (by omega)
  have hI := around_bd q.id 9 (by omega)
  generalize around q.id 9 = oi at *
  have cSm := fun w => ref_Small q.x0 q.y0 q.x1 q.y1 w hq.x0 hq.y0 hq.x1 hq.y1
  generalize rSmall q.x0 q.y0 q.x1 q.y1 = rs at *
  obtain ⟨op, id, a, b, x0, y0, x1, y1, s, d⟩ := q
  simp only at *
  go_enter Tryd.func13, Tryd.ntmps13
  go_wp2_with fail
  (refine wp_region_alloc 9 8 (by kernel_rfl) (by kernel_rfl) rfl rfl (fun a w => by go_simp; rfl) ?_; simp only [List.take_succ_cons, List.take_zero, List.drop_succ_cons, List.drop_zero]; (repeat (first | (refine firm_made (by rfl) ?_) | (refine firm_skip (by rfl) (by rfl) ?_; simp only [Act.put, List.setIfInBounds_toArray, List.set_cons_zero, List.set_cons_succ]) | (apply firm_step (by rfl) (by rfl) (by rfl); intro x0 K hK; go_big_quiet_op; (first | exact hK _ rfl | (apply Exists.intro; refine ⟨fun x => ?_, ?_⟩; (first | (go_at_call 14; with_reducible exact ext_same (cO _)) | (go_at_call 14; with_reducible exact ext_same (cI _))); exact hK _ rfl))))); refine firm_nil ?_; intro w1 b1 hb_w1 hbb_w1 ho_w1; obtain ⟨hc_w1, hf_w1⟩ := bcell hb_w1; have hz_w1 := hb_w1.size; (try simp only [World.size_alloc, World.size_setCell, World.size_drew] at hz_w1 hbb_w1); have hl_w1 := heap_lt ho_w1; obtain ⟨hn_w1, hg_w1⟩ := newcell ho_w1; clear ho_w1; simp only [Act.put, List.setIfInBounds_toArray, List.set_cons_zero, List.set_cons_succ])
  go_wp2_with (first | (go_at_call 14; (with_reducible refine (cO _).mono ?_); rintro e w1 ⟨rfl, rfl⟩) | (go_at_call 14; (with_reducible refine (cI _).mono ?_); rintro e w1 ⟨rfl, rfl⟩) | (go_at_call 39; (with_reducible refine (cSm _).mono ?_); rintro en w5 ⟨rfl, hb5⟩; obtain ⟨hc5, hf5⟩ := bcell hb5; have hz5 := hb5.size; (try simp only [World.size_alloc, World.size_setCell, World.size_drew] at hz5)))
  refine bodyPost_ret (v := (.agg #[.int .i64 11, .int .i64 (1 + oi), .int .i64 0, .int .i64 0, .int .i64 rs.x0, .int .i64 rs.y0, .int .i64 rs.x1, .int .i64 rs.y1, .string { data := #[] }, .slice none 0 0])) (by simp [results, Tryd.results13, go_sem, ↓IntWalk.iteOmega, *]) rfl ?_
  exact ⟨none, 0, rfl, Nat.le_refl _, reads_nil _ _, by (repeat (first | (with_reducible exact Below.refl _ _) | ((with_reducible refine Below.alloc ?_ ?hB _); (case hB => (first | omega | (simp; done) | (simp; omega)))) | ((with_reducible refine Below.setCell ?_ ?hB _); (case hB => (first | omega | (simp; done) | (simp; omega)))) | (with_reducible refine Below.drew ?_) | ((with_reducible refine below_ext_of ?_ ?hB); (case hB => (first | omega | (simp; done) | (simp; omega)))) | ((with_reducible refine Below.trans ?_ (Below.mono (by assumption) ?hB)); (case hB => (first | omega | (simp; done) | (simp; omega))))))⟩
set_option maxHeartbeats 4000000 in
theorem good_12 (q : Q9) (hq : q.Bw) (hk : around q.op 19 = 12) (A : Option Addr) (c : Nat) (w : World) (hdc : q.d.length ≤ c) (hrd : ReadsInt w .u8 A q.d.length q.d) : Calls Tryd.prog 13 #[(.agg #[.int .i64 q.op, .int .i64 q.id, .int .i64 q.a, .int .i64 q.b, .int .i64 q.x0, .int .i64 q.y0, .int .i64 q.x1, .int .i64 q.y1, .string q.s, .slice A q.d.length c])] w (GudP w (goodQ q)) := by
  have hg : goodQ q = ⟨12, (1 + around q.id 9), 0, 0, (rSmall q.x0 q.y0 q.x1 q.y1).x0, (rSmall q.x0 q.y0 q.x1 q.y1).y0, (rSmall q.x0 q.y0 q.x1 q.y1).x1, (rSmall q.x0 q.y0 q.x1 q.y1).y1, { data := #[] }, []⟩ := by unfold goodQ; rw [hk]; rfl
  rw [hg]; clear hg
  have cO := fun w => ref_Around q.op 19 w hq.op.1 hq.op.2 (by omega) (by omega)
  rw [hk] at cO; clear hk
  have cI := fun w => ref_Around q.id 9 w hq.id.1 hq.id.2 (by omega) (by omega)
  have hI := around_bd q.id 9 (by omega)
  generalize around q.id 9 = oi at *
  have cSm := fun w => ref_Small q.x0 q.y0 q.x1 q.y1 w hq.x0 hq.y0 hq.x1 hq.y1
  generalize rSmall q.x0 q.y0 q.x1 q.y1 = rs at *
  obtain ⟨op, id, a, b, x0, y0, x1, y1, s, d⟩ := q
  simp only at *
  go_enter Tryd.func13, Tryd.ntmps13
  go_wp2_with fail
  (refine wp_region_alloc 9 8 (by kernel_rfl) (by kernel_rfl) rfl rfl (fun a w => by go_simp; rfl) ?_; simp only [List.take_succ_cons, List.take_zero, List.drop_succ_cons, List.drop_zero]; (repeat (first | (refine firm_made (by rfl) ?_) | (refine firm_skip (by rfl) (by rfl) ?_; simp only [Act.put, List.setIfInBounds_toArray, List.set_cons_zero, List.set_cons_succ]) | (apply firm_step (by rfl) (by rfl) (by rfl); intro x0 K hK; go_big_quiet_op; (first | exact hK _ rfl | (apply Exists.intro; refine ⟨fun x => ?_, ?_⟩; (first | (go_at_call 14; with_reducible exact ext_same (cO _)) | (go_at_call 14; with_reducible exact ext_same (cI _))); exact hK _ rfl))))); refine firm_nil ?_; intro w1 b1 hb_w1 hbb_w1 ho_w1; obtain ⟨hc_w1, hf_w1⟩ := bcell hb_w1; have hz_w1 := hb_w1.size; (try simp only [World.size_alloc, World.size_setCell, World.size_drew] at hz_w1 hbb_w1); have hl_w1 := heap_lt ho_w1; obtain ⟨hn_w1, hg_w1⟩ := newcell ho_w1; clear ho_w1; simp only [Act.put, List.setIfInBounds_toArray, List.set_cons_zero, List.set_cons_succ])
  go_wp2_with (first | (go_at_call 14; (with_reducible refine (cO _).mono ?_); rintro e w1 ⟨rfl, rfl⟩) | (go_at_call 14; (with_reducible refine (cI _).mono ?_); rintro e w1 ⟨rfl, rfl⟩) | (go_at_call 39; (with_reducible refine (cSm _).mono ?_); rintro en w5 ⟨rfl, hb5⟩; obtain ⟨hc5, hf5⟩ := bcell hb5; have hz5 := hb5.size; (try simp only [World.size_alloc, World.size_setCell, World.size_drew] at hz5)))
  refine bodyPost_ret (v := (.agg #[.int .i64 12, .int .i64 (1 + oi), .int .i64 0, .int .i64 0, .int .i64 rs.x0, .int .i64 rs.y0, .int .i64 rs.x1, .int .i64 rs.y1, .string { data := #[] }, .slice none 0 0])) (by simp [results, Tryd.results13, go_sem, ↓IntWalk.iteOmega, *]) rfl ?_
  exact ⟨none, 0, rfl, Nat.le_refl _, reads_nil _ _, by (repeat (first | (with_reducible exact Below.refl _ _) | ((with_reducible refine Below.alloc ?_ ?hB _); (case hB => (first | omega | (simp; done) | (simp; omega)))) | ((with_reducible refine Below.setCell ?_ ?hB _); (case hB => (first | omega | (simp; done) | (simp; omega)))) | (with_reducible refine Below.drew ?_) | ((with_reducible refine below_ext_of ?_ ?hB); (case hB => (first | omega | (simp; done) | (simp; omega)))) | ((with_reducible refine Below.trans ?_ (Below.mono (by assumption) ?hB)); (case hB => (first | omega | (simp; done) | (simp; omega))))))⟩
set_option maxHeartbeats 4000000 in
theorem good_14 (q : Q9) (hq : q.Bw) (hk : around q.op 19 = 14) (A : Option Addr) (c : Nat) (w : World) (hdc : q.d.length ≤ c) (hrd : ReadsInt w .u8 A q.d.length q.d) : Calls Tryd.prog 13 #[(.agg #[.int .i64 q.op, .int .i64 q.id, .int .i64 q.a, .int .i64 q.b, .int .i64 q.x0, .int .i64 q.y0, .int .i64 q.x1, .int .i64 q.y1, .string q.s, .slice A q.d.length c])] w (GudP w (goodQ q)) := by
  have hg : goodQ q = ⟨14, (1 + around q.id 9), 0, 0, 0, 0, 0, 0, (cleanP (q.s.extract 0 (min q.s.size 20))), []⟩ := by unfold goodQ; rw [hk]; rfl
  rw [hg]; clear hg
  have cO := fun w => ref_Around q.op 19 w hq.op.1 hq.op.2 (by omega) (by omega)
  rw [hk] at cO; clear hk
  have cI := fun w => ref_Around q.id 9 w hq.id.1 hq.id.2 (by omega) (by omega)
  have hI := around_bd q.id 9 (by omega)
  generalize around q.id 9 = oi at *
  have c6 := fun w => r6_Few q.s w (by have := hq.s; omega)
  have hxs : (q.s.extract 0 (min q.s.size 20)).size ≤ 20 := ext20 q.s
  have cCl := fun w => r6_Clean (q.s.extract 0 (min q.s.size 20)) (by omega) w
  clear hxs
  generalize cleanP (q.s.extract 0 (min q.s.size 20)) = cs at *
  generalize q.s.extract 0 (min q.s.size 20) = fs at *
  obtain ⟨op, id, a, b, x0, y0, x1, y1, s, d⟩ := q
  simp only at *
  go_enter Tryd.func13, Tryd.ntmps13
  go_wp2_with fail
  (refine wp_region_alloc 9 8 (by kernel_rfl) (by kernel_rfl) rfl rfl (fun a w => by go_simp; rfl) ?_; simp only [List.take_succ_cons, List.take_zero, List.drop_succ_cons, List.drop_zero]; (repeat (first | (refine firm_made (by rfl) ?_) | (refine firm_skip (by rfl) (by rfl) ?_; simp only [Act.put, List.setIfInBounds_toArray, List.set_cons_zero, List.set_cons_succ]) | (apply firm_step (by rfl) (by rfl) (by rfl); intro x0 K hK; go_big_quiet_op; (first | exact hK _ rfl | (apply Exists.intro; refine ⟨fun x => ?_, ?_⟩; (first | (go_at_call 14; with_reducible exact ext_same (cO _)) | (go_at_call 14; with_reducible exact ext_same (cI _))); exact hK _ rfl))))); refine firm_nil ?_; intro w1 b1 hb_w1 hbb_w1 ho_w1; obtain ⟨hc_w1, hf_w1⟩ := bcell hb_w1; have hz_w1 := hb_w1.size; (try simp only [World.size_alloc, World.size_setCell, World.size_drew] at hz_w1 hbb_w1); have hl_w1 := heap_lt ho_w1; obtain ⟨hn_w1, hg_w1⟩ := newcell ho_w1; clear ho_w1; simp only [Act.put, List.setIfInBounds_toArray, List.set_cons_zero, List.set_cons_succ])
  go_wp2_with (first | (go_at_call 14; (with_reducible refine (cO _).mono ?_); rintro e w1 ⟨rfl, rfl⟩) | (go_at_call 14; (with_reducible refine (cI _).mono ?_); rintro e w1 ⟨rfl, rfl⟩) | (go_at_call 41; (with_reducible refine (c6 _).mono ?_); rintro en w5 ⟨rfl, hb5⟩; obtain ⟨hc5, hf5⟩ := bcell hb5; have hz5 := hb5.size; (try simp only [World.size_alloc, World.size_setCell, World.size_drew] at hz5)) | (go_at_call 40; (with_reducible refine (cCl _).mono ?_); rintro en w6 ⟨rfl, hb6⟩; obtain ⟨hc6, hf6⟩ := bcell hb6; have hz6 := hb6.size; (try simp only [World.size_alloc, World.size_setCell, World.size_drew] at hz6)))
  refine bodyPost_ret (v := (.agg #[.int .i64 14, .int .i64 (1 + oi), .int .i64 0, .int .i64 0, .int .i64 0, .int .i64 0, .int .i64 0, .int .i64 0, .string (cs), .slice none 0 0])) (by simp [results, Tryd.results13, go_sem, ↓IntWalk.iteOmega, *]) rfl ?_
  exact ⟨none, 0, rfl, Nat.le_refl _, reads_nil _ _, by (repeat (first | (with_reducible exact Below.refl _ _) | ((with_reducible refine Below.alloc ?_ ?hB _); (case hB => (first | omega | (simp; done) | (simp; omega)))) | ((with_reducible refine Below.setCell ?_ ?hB _); (case hB => (first | omega | (simp; done) | (simp; omega)))) | (with_reducible refine Below.drew ?_) | ((with_reducible refine below_ext_of ?_ ?hB); (case hB => (first | omega | (simp; done) | (simp; omega)))) | ((with_reducible refine Below.trans ?_ (Below.mono (by assumption) ?hB)); (case hB => (first | omega | (simp; done) | (simp; omega))))))⟩
set_option maxHeartbeats 4000000 in
theorem good_2 (q : Q9) (hq : q.Bw) (hk : around q.op 19 = 2) (A : Option Addr) (c : Nat) (w : World) (hdc : q.d.length ≤ c) (hrd : ReadsInt w .u8 A q.d.length q.d) : Calls Tryd.prog 13 #[(.agg #[.int .i64 q.op, .int .i64 q.id, .int .i64 q.a, .int .i64 q.b, .int .i64 q.x0, .int .i64 q.y0, .int .i64 q.x1, .int .i64 q.y1, .string q.s, .slice A q.d.length c])] w (GudP w (goodQ q)) := by
  have hg : goodQ q = ⟨2, (1 + around q.id 9), 0, 0, (around q.x0 8), (around q.y0 8), (around q.x0 8 + 1 + around q.x1 4), (around q.y0 8 + 1 + around q.y1 4), { data := #[] }, (q.d.take 64)⟩ := by unfold goodQ; rw [hk]; rfl
  rw [hg]; clear hg
  have cO := fun w => ref_Around q.op 19 w hq.op.1 hq.op.2 (by omega) (by omega)
  rw [hk] at cO; clear hk
  have cI := fun w => ref_Around q.id 9 w hq.id.1 hq.id.2 (by omega) (by omega)
  have hI := around_bd q.id 9 (by omega)
  generalize around q.id 9 = oi at *
  have c0 := fun w => ref_Around q.x0 8 w hq.x0.1 hq.x0.2 (by omega) (by omega)
  have h0 := around_bd q.x0 8 (by omega)
  generalize around q.x0 8 = o0 at *
  have c1 := fun w => ref_Around q.y0 8 w hq.y0.1 hq.y0.2 (by omega) (by omega)
  have h1 := around_bd q.y0 8 (by omega)
  generalize around q.y0 8 = o1 at *
  have c2 := fun w => ref_Around q.x1 4 w hq.x1.1 hq.x1.2 (by omega) (by omega)
  have h2 := around_bd q.x1 4 (by omega)
  generalize around q.x1 4 = o2 at *
  have c3 := fun w => ref_Around q.y1 4 w hq.y1.1 hq.y1.2 (by omega) (by omega)
  have h3 := around_bd q.y1 4 (by omega)
  generalize around q.y1 4 = o3 at *
  have cFe : ∀ w, Calls Tryd.prog 11 #[.slice A q.d.length c, .int .i64 64] w fun e w' => e = .returned (.slice A (min q.d.length 64) c) ∧ w = w' := fun w => ref_Few A q.d.length c 64 w hdc (by omega) (by have := hq.d; omega)
  have hlt : (q.d.take 64).length = min q.d.length 64 := by rw [List.length_take]; omega
  have HRD := Lib.hid hrd
  have HDC := Lib.hid hdc
  have HLT := Lib.hid hlt
  clear hrd hdc hlt
  obtain ⟨op, id, a, b, x0, y0, x1, y1, s, d⟩ := q
  simp only at *
  go_enter Tryd.func13, Tryd.ntmps13
  go_wp2_with fail
  (refine wp_region_alloc 9 8 (by kernel_rfl) (by kernel_rfl) rfl rfl (fun a w => by go_simp; rfl) ?_; simp only [List.take_succ_cons, List.take_zero, List.drop_succ_cons, List.drop_zero]; (repeat (first | (refine firm_made (by rfl) ?_) | (refine firm_skip (by rfl) (by rfl) ?_; simp only [Act.put, List.setIfInBounds_toArray, List.set_cons_zero, List.set_cons_succ]) | (apply firm_step (by rfl) (by rfl) (by rfl); intro x0 K hK; go_big_quiet_op; (first | exact hK _ rfl | (apply Exists.intro; refine ⟨fun x => ?_, ?_⟩; (first | (go_at_call 14; with_reducible exact ext_same (cO _)) | (go_at_call 14; with_reducible exact ext_same (cI _))); exact hK _ rfl))))); refine firm_nil ?_; intro w1 b1 hb_w1 hbb_w1 ho_w1; obtain ⟨hc_w1, hf_w1⟩ := bcell hb_w1; have hz_w1 := hb_w1.size; (try simp only [World.size_alloc, World.size_setCell, World.size_drew] at hz_w1 hbb_w1); have hl_w1 := heap_lt ho_w1; obtain ⟨hn_w1, hg_w1⟩ := newcell ho_w1; clear ho_w1; simp only [Act.put, List.setIfInBounds_toArray, List.set_cons_zero, List.set_cons_succ])
  go_wp2_with (first | (go_at_call 14; (with_reducible refine (cO _).mono ?_); rintro e w1 ⟨rfl, rfl⟩) | (go_at_call 14; (with_reducible refine (cI _).mono ?_); rintro e w1 ⟨rfl, rfl⟩) | (go_at_call 14; (with_reducible refine (c0 _).mono ?_); rintro e w1 ⟨rfl, rfl⟩) | (go_at_call 14; (with_reducible refine (c1 _).mono ?_); rintro e w1 ⟨rfl, rfl⟩) | (go_at_call 14; (with_reducible refine (c2 _).mono ?_); rintro e w1 ⟨rfl, rfl⟩) | (go_at_call 14; (with_reducible refine (c3 _).mono ?_); rintro e w1 ⟨rfl, rfl⟩) | (go_at_call 11; (with_reducible refine (cFe _).mono ?_); rintro en w5 ⟨rfl, rfl⟩))
  (refine wp_region_ext_tail 18 (by kernel_rfl) (by kernel_rfl) ?_; simp only [List.take_succ_cons, List.take_zero, List.drop_succ_cons, List.drop_zero]; (repeat (go_big_quiet_step ((first | (go_at_call 14; with_reducible exact ext_same (c0 _)) | (go_at_call 14; with_reducible exact ext_same (c1 _)) | (go_at_call 14; with_reducible exact ext_same (c2 _)) | (go_at_call 14; with_reducible exact ext_same (c3 _)))))); refine wpQuiet_nil ?_; intro w2 hb_w2; obtain ⟨hc_w2, hf_w2⟩ := bcell hb_w2; have hz_w2 := hb_w2.size; (try simp only [World.size_alloc, World.size_setCell, World.size_drew] at hz_w2))
  go_wp2_with (first | (go_at_call 14; (with_reducible refine (cO _).mono ?_); rintro e w1 ⟨rfl, rfl⟩) | (go_at_call 14; (with_reducible refine (cI _).mono ?_); rintro e w1 ⟨rfl, rfl⟩) | (go_at_call 14; (with_reducible refine (c0 _).mono ?_); rintro e w1 ⟨rfl, rfl⟩) | (go_at_call 14; (with_reducible refine (c1 _).mono ?_); rintro e w1 ⟨rfl, rfl⟩) | (go_at_call 14; (with_reducible refine (c2 _).mono ?_); rintro e w1 ⟨rfl, rfl⟩) | (go_at_call 14; (with_reducible refine (c3 _).mono ?_); rintro e w1 ⟨rfl, rfl⟩) | (go_at_call 11; (with_reducible refine (cFe _).mono ?_); rintro en w5 ⟨rfl, rfl⟩))
  refine bodyPost_ret (v := (.agg #[.int .i64 2, .int .i64 (1 + oi), .int .i64 0, .int .i64 0, .int .i64 (o0), .int .i64 (o1), .int .i64 (o0 + 1 + o2), .int .i64 (o1 + 1 + o3), .string { data := #[] }, .slice A (min d.length 64) c])) (by simp [results, Tryd.results13, go_sem, ↓IntWalk.iteOmega, *]) rfl ?_
  exact ⟨A, c, by rw [HLT.out], by rw [HLT.out]; have := HDC.out; omega, by rw [HLT.out]; exact reads_b (reads_takeB HRD.out 64) (by (repeat (first | (with_reducible exact Below.refl _ _) | ((with_reducible refine Below.alloc ?_ ?hB _); (case hB => (first | omega | (simp; done) | (simp; omega)))) | ((with_reducible refine Below.setCell ?_ ?hB _); (case hB => (first | omega | (simp; done) | (simp; omega)))) | (with_reducible refine Below.drew ?_) | ((with_reducible refine below_ext_of ?_ ?hB); (case hB => (first | omega | (simp; done) | (simp; omega)))) | ((with_reducible refine Below.trans ?_ (Below.mono (by assumption) ?hB)); (case hB => (first | omega | (simp; done) | (simp; omega))))))), by (repeat (first | (with_reducible exact Below.refl _ _) | ((with_reducible refine Below.alloc ?_ ?hB _); (case hB => (first | omega | (simp; done) | (simp; omega)))) | ((with_reducible refine Below.setCell ?_ ?hB _); (case hB => (first | omega | (simp; done) | (simp; omega)))) | (with_reducible refine Below.drew ?_) | ((with_reducible refine below_ext_of ?_ ?hB); (case hB => (first | omega | (simp; done) | (simp; omega)))) | ((with_reducible refine Below.trans ?_ (Below.mono (by assumption) ?hB)); (case hB => (first | omega | (simp; done) | (simp; omega))))))⟩
end Go.Proofs.YtinnaiofgbjicaaDoor
