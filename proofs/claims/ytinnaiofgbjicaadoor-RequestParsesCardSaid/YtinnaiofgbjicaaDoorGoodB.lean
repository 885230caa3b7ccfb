/- A good request, the document's: walked (part B). -/
import Derived.Test.YtinnaiofgbjicaaDoorGood
namespace Go.Proofs.YtinnaiofgbjicaaDoor
open Go.RowKit Go.Proofs.YtinnaiofgbjicaaDoorW.PrintWords
set_option linter.unusedSimpArgs false
set_option linter.unusedVariables false
set_option maxRecDepth 1000000
set_option maxHeartbeats 4000000 in
theorem good_13 (q : Q9) (hq : q.Bw) (hk : around q.op 19 = 13) (A : Option Addr) (c : Nat) (w : World) (hdc : q.d.length ≤ c) (hrd : ReadsInt w .u8 A q.d.length q.d) : Calls Tryd.prog 13 #[(.agg #[.int .i64 q.op, .int .i64 q.id, .int .i64 q.a, .int .i64 q.b, .int .i64 q.x0, .int .i64 q.y0, .int .i64 q.x1, .int .i64 q.y1, .string q.s, .slice A q.d.length c])] w (GudP w (goodQ q)) := by
  have hg : goodQ q = ⟨13, (1 + around q.id 9), (around q.a 256), 0, 0, 0, 0, 0, { data := #[] }, []⟩ := by unfold goodQ; rw [hk]; rfl
  rw [hg]; clear hg
  have cO := fun w => ref_Around q.op 19 w hq.op.1 hq.op.2 (by omega) (by omega)
  rw [hk] at cO; clear hk
  have cI := fun w => ref_Around q.id 9 w hq.id.1 hq.id.2 (by omega) (by omega)
  have hI := around_bd q.id 9 (by omega)
  generalize around q.id 9 = oi at *
  have c0 := fun w => ref_Around q.a 256 w hq.a.1 hq.a.2 (by omega) (by omega)
  have h0 := around_bd q.a 256 (by omega)
  generalize around q.a 256 = o0 at *
  obtain ⟨op, id, a, b, x0, y0, x1, y1, s, d⟩ := q
  simp only at *
  go_enter Tryd.func13, Tryd.ntmps13
  go_wp2_with fail
  (refine wp_region_alloc 9 8 (by kernel_rfl) (by kernel_rfl) rfl rfl (fun a w => by go_simp; rfl) ?_; simp only [List.take_succ_cons, List.take_zero, List.drop_succ_cons, List.drop_zero]; (repeat (first | (refine firm_made (by rfl) ?_) | (refine firm_skip (by rfl) (by rfl) ?_; simp only [Act.put, List.setIfInBounds_toArray, List.set_cons_zero, List.set_cons_succ]) | (apply firm_step (by rfl) (by rfl) (by rfl); intro x0 K hK; go_big_quiet_op; (first | exact hK _ rfl | (apply Exists.intro; refine ⟨fun x => ?_, ?_⟩; (first | (go_at_call 14; with_reducible exact ext_same (cO _)) | (go_at_call 14; with_reducible exact ext_same (cI _))); exact hK _ rfl))))); refine firm_nil ?_; intro w1 b1 hb_w1 hbb_w1 ho_w1; obtain ⟨hc_w1, hf_w1⟩ := bcell hb_w1; have hz_w1 := hb_w1.size; (try simp only [World.size_alloc, World.size_setCell, World.size_drew] at hz_w1 hbb_w1); have hl_w1 := heap_lt ho_w1; obtain ⟨hn_w1, hg_w1⟩ := newcell ho_w1; clear ho_w1; simp only [Act.put, List.setIfInBounds_toArray, List.set_cons_zero, List.set_cons_succ])
  go_wp2_with (first | (go_at_call 14; (with_reducible refine (cO _).mono ?_); rintro e w1 ⟨rfl, rfl⟩) | (go_at_call 14; (with_reducible refine (cI _).mono ?_); rintro e w1 ⟨rfl, rfl⟩) | (go_at_call 14; (with_reducible refine (c0 _).mono ?_); rintro e w1 ⟨rfl, rfl⟩))
  refine bodyPost_ret (v := (.agg #[.int .i64 13, .int .i64 (1 + oi), .int .i64 (o0), .int .i64 0, .int .i64 0, .int .i64 0, .int .i64 0, .int .i64 0, .string { data := #[] }, .slice none 0 0])) (by simp [results, Tryd.results13, go_sem, ↓IntWalk.iteOmega, *]) rfl ?_
  exact ⟨none, 0, rfl, Nat.le_refl _, reads_nil _ _, by (repeat (first | (with_reducible exact Below.refl _ _) | ((with_reducible refine Below.alloc ?_ ?hB _); (case hB => (first | omega | (simp; done) | (simp; omega)))) | ((with_reducible refine Below.setCell ?_ ?hB _); (case hB => (first | omega | (simp; done) | (simp; omega)))) | (with_reducible refine Below.drew ?_) | ((with_reducible refine below_ext_of ?_ ?hB); (case hB => (first | omega | (simp; done) | (simp; omega)))) | ((with_reducible refine Below.trans ?_ (Below.mono (by assumption) ?hB)); (case hB => (first | omega | (simp; done) | (simp; omega))))))⟩
set_option maxHeartbeats 4000000 in
theorem good_5 (q : Q9) (hq : q.Bw) (hk : around q.op 19 = 5) (A : Option Addr) (c : Nat) (w : World) (hdc : q.d.length ≤ c) (hrd : ReadsInt w .u8 A q.d.length q.d) : Calls Tryd.prog 13 #[(.agg #[.int .i64 q.op, .int .i64 q.id, .int .i64 q.a, .int .i64 q.b, .int .i64 q.x0, .int .i64 q.y0, .int .i64 q.x1, .int .i64 q.y1, .string q.s, .slice A q.d.length c])] w (GudP w (goodQ q)) := by
  have hg : goodQ q = ⟨5, (1 + around q.id 9), (around q.a 10), 0, 0, 0, 0, 0, { data := #[] }, []⟩ := by unfold goodQ; rw [hk]; rfl
  rw [hg]; clear hg
  have cO := fun w => ref_Around q.op 19 w hq.op.1 hq.op.2 (by omega) (by omega)
  rw [hk] at cO; clear hk
  have cI := fun w => ref_Around q.id 9 w hq.id.1 hq.id.2 (by omega) (by omega)
  have hI := around_bd q.id 9 (by omega)
  generalize around q.id 9 = oi at *
  have c0 := fun w => ref_Around q.a 10 w hq.a.1 hq.a.2 (by omega) (by omega)
  have h0 := around_bd q.a 10 (by omega)
  generalize around q.a 10 = o0 at *
  obtain ⟨op, id, a, b, x0, y0, x1, y1, s, d⟩ := q
  simp only at *
  go_enter Tryd.func13, Tryd.ntmps13
  go_wp2_with fail
  (refine wp_region_alloc 9 8 (by kernel_rfl) (by kernel_rfl) rfl rfl (fun a w => by go_simp; rfl) ?_; simp only [List.take_succ_cons, List.take_zero, List.drop_succ_cons, List.drop_zero]; (repeat (first | (refine firm_made (by rfl) ?_) | (refine firm_skip (by rfl) (by rfl) ?_; simp only [Act.put, List.setIfInBounds_toArray, List.set_cons_zero, List.set_cons_succ]) | (apply firm_step (by rfl) (by rfl) (by rfl); intro x0 K hK; go_big_quiet_op; (first | exact hK _ rfl | (apply Exists.intro; refine ⟨fun x => ?_, ?_⟩; (first | (go_at_call 14; with_reducible exact ext_same (cO _)) | (go_at_call 14; with_reducible exact ext_same (cI _))); exact hK _ rfl))))); refine firm_nil ?_; intro w1 b1 hb_w1 hbb_w1 ho_w1; obtain ⟨hc_w1, hf_w1⟩ := bcell hb_w1; have hz_w1 := hb_w1.size; (try simp only [World.size_alloc, World.size_setCell, World.size_drew] at hz_w1 hbb_w1); have hl_w1 := heap_lt ho_w1; obtain ⟨hn_w1, hg_w1⟩ := newcell ho_w1; clear ho_w1; simp only [Act.put, List.setIfInBounds_toArray, List.set_cons_zero, List.set_cons_succ])
  go_wp2_with (first | (go_at_call 14; (with_reducible refine (cO _).mono ?_); rintro e w1 ⟨rfl, rfl⟩) | (go_at_call 14; (with_reducible refine (cI _).mono ?_); rintro e w1 ⟨rfl, rfl⟩) | (go_at_call 14; (with_reducible refine (c0 _).mono ?_); rintro e w1 ⟨rfl, rfl⟩))
  refine bodyPost_ret (v := (.agg #[.int .i64 5, .int .i64 (1 + oi), .int .i64 (o0), .int .i64 0, .int .i64 0, .int .i64 0, .int .i64 0, .int .i64 0, .string { data := #[] }, .slice none 0 0])) (by simp [results, Tryd.results13, go_sem, ↓IntWalk.iteOmega, *]) rfl ?_
  exact ⟨none, 0, rfl, Nat.le_refl _, reads_nil _ _, by (repeat (first | (with_reducible exact Below.refl _ _) | ((with_reducible refine Below.alloc ?_ ?hB _); (case hB => (first | omega | (simp; done) | (simp; omega)))) | ((with_reducible refine Below.setCell ?_ ?hB _); (case hB => (first | omega | (simp; done) | (simp; omega)))) | (with_reducible refine Below.drew ?_) | ((with_reducible refine below_ext_of ?_ ?hB); (case hB => (first | omega | (simp; done) | (simp; omega)))) | ((with_reducible refine Below.trans ?_ (Below.mono (by assumption) ?hB)); (case hB => (first | omega | (simp; done) | (simp; omega))))))⟩
set_option maxHeartbeats 4000000 in
theorem good_8 (q : Q9) (hq : q.Bw) (hk : around q.op 19 = 8) (A : Option Addr) (c : Nat) (w : World) (hdc : q.d.length ≤ c) (hrd : ReadsInt w .u8 A q.d.length q.d) : Calls Tryd.prog 13 #[(.agg #[.int .i64 q.op, .int .i64 q.id, .int .i64 q.a, .int .i64 q.b, .int .i64 q.x0, .int .i64 q.y0, .int .i64 q.x1, .int .i64 q.y1, .string q.s, .slice A q.d.length c])] w (GudP w (goodQ q)) := by
  have hg : goodQ q = ⟨8, (1 + around q.id 9), (around q.a 10), 0, 0, 0, 0, 0, { data := #[] }, []⟩ := by unfold goodQ; rw [hk]; rfl
  rw [hg]; clear hg
  have cO := fun w => ref_Around q.op 19 w hq.op.1 hq.op.2 (by omega) (by omega)
  rw [hk] at cO; clear hk
  have cI := fun w => ref_Around q.id 9 w hq.id.1 hq.id.2 (by omega) (by omega)
  have hI := around_bd q.id 9 (by omega)
  generalize around q.id 9 = oi at *
  have c0 := fun w => ref_Around q.a 10 w hq.a.1 hq.a.2 (by omega) (by omega)
  have h0 := around_bd q.a 10 (by omega)
  generalize around q.a 10 = o0 at *
  obtain ⟨op, id, a, b, x0, y0, x1, y1, s, d⟩ := q
  simp only at *
  go_enter Tryd.func13, Tryd.ntmps13
  go_wp2_with fail
  (refine wp_region_alloc 9 8 (by kernel_rfl) (by kernel_rfl) rfl rfl (fun a w => by go_simp; rfl) ?_; simp only [List.take_succ_cons, List.take_zero, List.drop_succ_cons, List.drop_zero]; (repeat (first | (refine firm_made (by rfl) ?_) | (refine firm_skip (by rfl) (by rfl) ?_; simp only [Act.put, List.setIfInBounds_toArray, List.set_cons_zero, List.set_cons_succ]) | (apply firm_step (by rfl) (by rfl) (by rfl); intro x0 K hK; go_big_quiet_op; (first | exact hK _ rfl | (apply Exists.intro; refine ⟨fun x => ?_, ?_⟩; (first | (go_at_call 14; with_reducible exact ext_same (cO _)) | (go_at_call 14; with_reducible exact ext_same (cI _))); exact hK _ rfl))))); refine firm_nil ?_; intro w1 b1 hb_w1 hbb_w1 ho_w1; obtain ⟨hc_w1, hf_w1⟩ := bcell hb_w1; have hz_w1 := hb_w1.size; (try simp only [World.size_alloc, World.size_setCell, World.size_drew] at hz_w1 hbb_w1); have hl_w1 := heap_lt ho_w1; obtain ⟨hn_w1, hg_w1⟩ := newcell ho_w1; clear ho_w1; simp only [Act.put, List.setIfInBounds_toArray, List.set_cons_zero, List.set_cons_succ])
  go_wp2_with (first | (go_at_call 14; (with_reducible refine (cO _).mono ?_); rintro e w1 ⟨rfl, rfl⟩) | (go_at_call 14; (with_reducible refine (cI _).mono ?_); rintro e w1 ⟨rfl, rfl⟩) | (go_at_call 14; (with_reducible refine (c0 _).mono ?_); rintro e w1 ⟨rfl, rfl⟩))
  refine bodyPost_ret (v := (.agg #[.int .i64 8, .int .i64 (1 + oi), .int .i64 (o0), .int .i64 0, .int .i64 0, .int .i64 0, .int .i64 0, .int .i64 0, .string { data := #[] }, .slice none 0 0])) (by simp [results, Tryd.results13, go_sem, ↓IntWalk.iteOmega, *]) rfl ?_
  exact ⟨none, 0, rfl, Nat.le_refl _, reads_nil _ _, by (repeat (first | (with_reducible exact Below.refl _ _) | ((with_reducible refine Below.alloc ?_ ?hB _); (case hB => (first | omega | (simp; done) | (simp; omega)))) | ((with_reducible refine Below.setCell ?_ ?hB _); (case hB => (first | omega | (simp; done) | (simp; omega)))) | (with_reducible refine Below.drew ?_) | ((with_reducible refine below_ext_of ?_ ?hB); (case hB => (first | omega | (simp; done) | (simp; omega)))) | ((with_reducible refine Below.trans ?_ (Below.mono (by assumption) ?hB)); (case hB => (first | omega | (simp; done) | (simp; omega))))))⟩
set_option maxHeartbeats 4000000 in
theorem good_15 (q : Q9) (hq : q.Bw) (hk : around q.op 19 = 15) (A : Option Addr) (c : Nat) (w : World) (hdc : q.d.length ≤ c) (hrd : ReadsInt w .u8 A q.d.length q.d) : Calls Tryd.prog 13 #[(.agg #[.int .i64 q.op, .int .i64 q.id, .int .i64 q.a, .int .i64 q.b, .int .i64 q.x0, .int .i64 q.y0, .int .i64 q.x1, .int .i64 q.y1, .string q.s, .slice A q.d.length c])] w (GudP w (goodQ q)) := by
  have hg : goodQ q = ⟨15, (1 + around q.id 9), (around q.a 10), 0, 0, 0, 0, 0, { data := #[] }, []⟩ := by unfold goodQ; rw [hk]; rfl
  rw [hg]; clear hg
  have cO := fun w => ref_Around q.op 19 w hq.op.1 hq.op.2 (by omega) (by omega)
  rw [hk] at cO; clear hk
  have cI := fun w => ref_Around q.id 9 w hq.id.1 hq.id.2 (by omega) (by omega)
  have hI := around_bd q.id 9 (by omega)
  generalize around q.id 9 = oi at *
  have c0 := fun w => ref_Around q.a 10 w hq.a.1 hq.a.2 (by omega) (by omega)
  have h0 := around_bd q.a 10 (by omega)
  generalize around q.a 10 = o0 at *
  obtain ⟨op, id, a, b, x0, y0, x1, y1, s, d⟩ := q
  simp only at *
  go_enter Tryd.func13, Tryd.ntmps13
  go_wp2_with fail
  (refine wp_region_alloc 9 8 (by kernel_rfl) (by kernel_rfl) rfl rfl (fun a w => by go_simp; rfl) ?_; simp only [List.take_succ_cons, List.take_zero, List.drop_succ_cons, List.drop_zero]; (repeat (first | (refine firm_made (by rfl) ?_) | (refine firm_skip (by rfl) (by rfl) ?_; simp only [Act.put, List.setIfInBounds_toArray, List.set_cons_zero, List.set_cons_succ]) | (apply firm_step (by rfl) (by rfl) (by rfl); intro x0 K hK; go_big_quiet_op; (first | exact hK _ rfl | (apply Exists.intro; refine ⟨fun x => ?_, ?_⟩; (first | (go_at_call 14; with_reducible exact ext_same (cO _)) | (go_at_call 14; with_reducible exact ext_same (cI _))); exact hK _ rfl))))); refine firm_nil ?_; intro w1 b1 hb_w1 hbb_w1 ho_w1; obtain ⟨hc_w1, hf_w1⟩ := bcell hb_w1; have hz_w1 := hb_w1.size; (try simp only [World.size_alloc, World.size_setCell, World.size_drew] at hz_w1 hbb_w1); have hl_w1 := heap_lt ho_w1; obtain ⟨hn_w1, hg_w1⟩ := newcell ho_w1; clear ho_w1; simp only [Act.put, List.setIfInBounds_toArray, List.set_cons_zero, List.set_cons_succ])
  go_wp2_with (first | (go_at_call 14; (with_reducible refine (cO _).mono ?_); rintro e w1 ⟨rfl, rfl⟩) | (go_at_call 14; (with_reducible refine (cI _).mono ?_); rintro e w1 ⟨rfl, rfl⟩) | (go_at_call 14; (with_reducible refine (c0 _).mono ?_); rintro e w1 ⟨rfl, rfl⟩))
  refine bodyPost_ret (v := (.agg #[.int .i64 15, .int .i64 (1 + oi), .int .i64 (o0), .int .i64 0, .int .i64 0, .int .i64 0, .int .i64 0, .int .i64 0, .string { data := #[] }, .slice none 0 0])) (by simp [results, Tryd.results13, go_sem, ↓IntWalk.iteOmega, *]) rfl ?_
  exact ⟨none, 0, rfl, Nat.le_refl _, reads_nil _ _, by (repeat (first | (with_reducible exact Below.refl _ _) | ((with_reducible refine Below.alloc ?_ ?hB _); (case hB => (first | omega | (simp; done) | (simp; omega)))) | ((with_reducible refine Below.setCell ?_ ?hB _); (case hB => (first | omega | (simp; done) | (simp; omega)))) | (with_reducible refine Below.drew ?_) | ((with_reducible refine below_ext_of ?_ ?hB); (case hB => (first | omega | (simp; done) | (simp; omega)))) | ((with_reducible refine Below.trans ?_ (Below.mono (by assumption) ?hB)); (case hB => (first | omega | (simp; done) | (simp; omega))))))⟩
set_option maxHeartbeats 4000000 in
theorem good_7 (q : Q9) (hq : q.Bw) (hk : around q.op 19 = 7) (A : Option Addr) (c : Nat) (w : World) (hdc : q.d.length ≤ c) (hrd : ReadsInt w .u8 A q.d.length q.d) : Calls Tryd.prog 13 #[(.agg #[.int .i64 q.op, .int .i64 q.id, .int .i64 q.a, .int .i64 q.b, .int .i64 q.x0, .int .i64 q.y0, .int .i64 q.x1, .int .i64 q.y1, .string q.s, .slice A q.d.length c])] w (GudP w (goodQ q)) := by
  have hg : goodQ q = ⟨7, (1 + around q.id 9), (around q.a 40 - 10), (around q.b 40 - 10), 0, 0, 0, 0, { data := #[] }, []⟩ := by unfold goodQ; rw [hk]; rfl
  rw [hg]; clear hg
  have cO := fun w => ref_Around q.op 19 w hq.op.1 hq.op.2 (by omega) (by omega)
  rw [hk] at cO; clear hk
  have cI := fun w => ref_Around q.id 9 w hq.id.1 hq.id.2 (by omega) (by omega)
  have hI := around_bd q.id 9 (by omega)
  generalize around q.id 9 = oi at *
  have c0 := fun w => ref_Around q.a 40 w hq.a.1 hq.a.2 (by omega) (by omega)
  have h0 := around_bd q.a 40 (by omega)
  generalize around q.a 40 = o0 at *
  have c1 := fun w => ref_Around q.b 40 w hq.b.1 hq.b.2 (by omega) (by omega)
  have h1 := around_bd q.b 40 (by omega)
  generalize around q.b 40 = o1 at *
  obtain ⟨op, id, a, b, x0, y0, x1, y1, s, d⟩ := q
  simp only at *
  go_enter Tryd.func13, Tryd.ntmps13
  go_wp2_with fail
  (refine wp_region_alloc 9 8 (by kernel_rfl) (by kernel_rfl) rfl rfl (fun a w => by go_simp; rfl) ?_; simp only [List.take_succ_cons, List.take_zero, List.drop_succ_cons, List.drop_zero]; (repeat (first | (refine firm_made (by rfl) ?_) | (refine firm_skip (by rfl) (by rfl) ?_; simp only [Act.put, List.setIfInBounds_toArray, List.set_cons_zero, List.set_cons_succ]) | (apply firm_step (by rfl) (by rfl) (by rfl); intro x0 K hK; go_big_quiet_op; (first | exact hK _ rfl | (apply Exists.intro; refine ⟨fun x => ?_, ?_⟩; (first | (go_at_call 14; with_reducible exact ext_same (cO _)) | (go_at_call 14; with_reducible exact ext_same (cI _))); exact hK _ rfl))))); refine firm_nil ?_; intro w1 b1 hb_w1 hbb_w1 ho_w1; obtain ⟨hc_w1, hf_w1⟩ := bcell hb_w1; have hz_w1 := hb_w1.size; (try simp only [World.size_alloc, World.size_setCell, World.size_drew] at hz_w1 hbb_w1); have hl_w1 := heap_lt ho_w1; obtain ⟨hn_w1, hg_w1⟩ := newcell ho_w1; clear ho_w1; simp only [Act.put, List.setIfInBounds_toArray, List.set_cons_zero, List.set_cons_succ])
  go_wp2_with (first | (go_at_call 14; (with_reducible refine (cO _).mono ?_); rintro e w1 ⟨rfl, rfl⟩) | (go_at_call 14; (with_reducible refine (cI _).mono ?_); rintro e w1 ⟨rfl, rfl⟩) | (go_at_call 14; (with_reducible refine (c0 _).mono ?_); rintro e w1 ⟨rfl, rfl⟩) | (go_at_call 14; (with_reducible refine (c1 _).mono ?_); rintro e w1 ⟨rfl, rfl⟩))
  refine bodyPost_ret (v := (.agg #[.int .i64 7, .int .i64 (1 + oi), .int .i64 (o0 - 10), .int .i64 (o1 - 10), .int .i64 0, .int .i64 0, .int .i64 0, .int .i64 0, .string { data := #[] }, .slice none 0 0])) (by simp [results, Tryd.results13, go_sem, ↓IntWalk.iteOmega, *]) rfl ?_
  exact ⟨none, 0, rfl, Nat.le_refl _, reads_nil _ _, by (repeat (first | (with_reducible exact Below.refl _ _) | ((with_reducible refine Below.alloc ?_ ?hB _); (case hB => (first | omega | (simp; done) | (simp; omega)))) | ((with_reducible refine Below.setCell ?_ ?hB _); (case hB => (first | omega | (simp; done) | (simp; omega)))) | (with_reducible refine Below.drew ?_) | ((with_reducible refine below_ext_of ?_ ?hB); (case hB => (first | omega | (simp; done) | (simp; omega)))) | ((with_reducible refine Below.trans ?_ (Below.mono (by assumption) ?hB)); (case hB => (first | omega | (simp; done) | (simp; omega))))))⟩
set_option maxHeartbeats 4000000 in
theorem good_17 (q : Q9) (hq : q.Bw) (hk : around q.op 19 = 17) (A : Option Addr) (c : Nat) (w : World) (hdc : q.d.length ≤ c) (hrd : ReadsInt w .u8 A q.d.length q.d) : Calls Tryd.prog 13 #[(.agg #[.int .i64 q.op, .int .i64 q.id, .int .i64 q.a, .int .i64 q.b, .int .i64 q.x0, .int .i64 q.y0, .int .i64 q.x1, .int .i64 q.y1, .string q.s, .slice A q.d.length c])] w (GudP w (goodQ q)) := by
  have hg : goodQ q = ⟨17, (1 + around q.id 9), (around q.a 40 - 10), (around q.b 40 - 10), 0, 0, 0, 0, { data := #[] }, []⟩ := by unfold goodQ; rw [hk]; rfl
  rw [hg]; clear hg
  have cO := fun w => ref_Around q.op 19 w hq.op.1 hq.op.2 (by omega) (by omega)
  rw [hk] at cO; clear hk
  have cI := fun w => ref_Around q.id 9 w hq.id.1 hq.id.2 (by omega) (by omega)
  have hI := around_bd q.id 9 (by omega)
  generalize around q.id 9 = oi at *
  have c0 := fun w => ref_Around q.a 40 w hq.a.1 hq.a.2 (by omega) (by omega)
  have h0 := around_bd q.a 40 (by omega)
  generalize around q.a 40 = o0 at *
  have c1 := fun w => ref_Around q.b 40 w hq.b.1 hq.b.2 (by omega) (by omega)
  have h1 := around_bd q.b 40 (by omega)
  generalize around q.b 40 = o1 at *
  obtain ⟨op, id, a, b, x0, y0, x1, y1, s, d⟩ := q
  simp only at *
  go_enter Tryd.func13, Tryd.ntmps13
  go_wp2_with fail
  (refine wp_region_alloc 9 8 (by kernel_rfl) (by kernel_rfl) rfl rfl (fun a w => by go_simp; rfl) ?_; simp only [List.take_succ_cons, List.take_zero, List.drop_succ_cons, List.drop_zero]; (repeat (first | (refine firm_made (by rfl) ?_) | (refine firm_skip (by rfl) (by rfl) ?_; simp only [Act.put, List.setIfInBounds_toArray, List.set_cons_zero, List.set_cons_succ]) | (apply firm_step (by rfl) (by rfl) (by rfl); intro x0 K hK; go_big_quiet_op; (first | exact hK _ rfl | (apply Exists.intro; refine ⟨fun x => ?_, ?_⟩; (first | (go_at_call 14; with_reducible exact ext_same (cO _)) | (go_at_call 14; with_reducible exact ext_same (cI _))); exact hK _ rfl))))); refine firm_nil ?_; intro w1 b1 hb_w1 hbb_w1 ho_w1; obtain ⟨hc_w1, hf_w1⟩ := bcell hb_w1; have hz_w1 := hb_w1.size; (try simp only [World.size_alloc, World.size_setCell, World.size_drew] at hz_w1 hbb_w1); have hl_w1 := heap_lt ho_w1; obtain ⟨hn_w1, hg_w1⟩ := newcell ho_w1; clear ho_w1; simp only [Act.put, List.setIfInBounds_toArray, List.set_cons_zero, List.set_cons_succ])
  go_wp2_with (first | (go_at_call 14; (with_reducible refine (cO _).mono ?_); rintro e w1 ⟨rfl, rfl⟩) | (go_at_call 14; (with_reducible refine (cI _).mono ?_); rintro e w1 ⟨rfl, rfl⟩) | (go_at_call 14; (with_reducible refine (c0 _).mono ?_); rintro e w1 ⟨rfl, rfl⟩) | (go_at_call 14; (with_reducible refine (c1 _).mono ?_); rintro e w1 ⟨rfl, rfl⟩))
  refine bodyPost_ret (v := (.agg #[.int .i64 17, .int .i64 (1 + oi), .int .i64 (o0 - 10), .int .i64 (o1 - 10), .int .i64 0, .int .i64 0, .int .i64 0, .int .i64 0, .string { data := #[] }, .slice none 0 0])) (by simp [results, Tryd.results13, go_sem, ↓IntWalk.iteOmega, *]) rfl ?_
  exact ⟨none, 0, rfl, Nat.le_refl _, reads_nil _ _, by (repeat (first | (with_reducible exact Below.refl _ _) | ((with_reducible refine Below.alloc ?_ ?hB _); (case hB => (first | omega | (simp; done) | (simp; omega)))) | ((with_reducible refine Below.setCell ?_ ?hB _); (case hB => (first | omega | (simp; done) | (simp; omega)))) | (with_reducible refine Below.drew ?_) | ((with_reducible refine below_ext_of ?_ ?hB); (case hB => (first | omega | (simp; done) | (simp; omega)))) | ((with_reducible refine Below.trans ?_ (Below.mono (by assumption) ?hB)); (case hB => (first | omega | (simp; done) | (simp; omega))))))⟩
set_option maxHeartbeats 4000000 in
theorem good_18 (q : Q9) (hq : q.Bw) (hk : around q.op 19 = 18) (A : Option Addr) (c : Nat) (w : World) (hdc : q.d.length ≤ c) (hrd : ReadsInt w .u8 A q.d.length q.d) : Calls Tryd.prog 13 #[(.agg #[.int .i64 q.op, .int .i64 q.id, .int .i64 q.a, .int .i64 q.b, .int .i64 q.x0, .int .i64 q.y0, .int .i64 q.x1, .int .i64 q.y1, .string q.s, .slice A q.d.length c])] w (GudP w (goodQ q)) := by
  have hg : goodQ q = ⟨18, 0, (around q.a 40 - 10), (around q.b 40 - 10), 0, 0, 0, 0, { data := #[] }, []⟩ := by unfold goodQ; rw [hk]; rfl
  rw [hg]; clear hg
  have cO := fun w => ref_Around q.op 19 w hq.op.1 hq.op.2 (by omega) (by omega)
  rw [hk] at cO; clear hk
  have cI := fun w => ref_Around q.id 9 w hq.id.1 hq.id.2 (by omega) (by omega)
  have hI := around_bd q.id 9 (by omega)
  generalize around q.id 9 = oi at *
  have c0 := fun w => ref_Around q.a 40 w hq.a.1 hq.a.2 (by omega) (by omega)
  have h0 := around_bd q.a 40 (by omega)
  generalize around q.a 40 = o0 at *
  have c1 := fun w => ref_Around q.b 40 w hq.b.1 hq.b.2 (by omega) (by omega)
  have h1 := around_bd q.b 40 (by omega)
  generalize around q.b 40 = o1 at *
  obtain ⟨op, id, a, b, x0, y0, x1, y1, s, d⟩ := q
  simp only at *
  go_enter Tryd.func13, Tryd.ntmps13
  go_wp2_with fail
  (refine wp_region_alloc 9 8 (by kernel_rfl) (by kernel_rfl) rfl rfl (fun a w => by go_simp; rfl) ?_; simp only [List.take_succ_cons, List.take_zero, List.drop_succ_cons, List.drop_zero]; (repeat (first | (refine firm_made (by rfl) ?_) | (refine firm_skip (by rfl) (by rfl) ?_; simp only [Act.put, List.setIfInBounds_toArray, List.set_cons_zero, List.set_cons_succ]) | (apply firm_step (by rfl) (by rfl) (by rfl); intro x0 K hK; go_big_quiet_op; (first | exact hK _ rfl | (apply Exists.intro; refine ⟨fun x => ?_, ?_⟩; (first | (go_at_call 14; with_reducible exact ext_same (cO _)) | (go_at_call 14; with_reducible exact ext_same (cI _))); exact hK _ rfl))))); refine firm_nil ?_; intro w1 b1 hb_w1 hbb_w1 ho_w1; obtain ⟨hc_w1, hf_w1⟩ := bcell hb_w1; have hz_w1 := hb_w1.size; (try simp only [World.size_alloc, World.size_setCell, World.size_drew] at hz_w1 hbb_w1); have hl_w1 := heap_lt ho_w1; obtain ⟨hn_w1, hg_w1⟩ := newcell ho_w1; clear ho_w1; simp only [Act.put, List.setIfInBounds_toArray, List.set_cons_zero, List.set_cons_succ])
  go_wp2_with (first | (go_at_call 14; (with_reducible refine (cO _).mono ?_); rintro e w1 ⟨rfl, rfl⟩) | (go_at_call 14; (with_reducible refine (cI _).mono ?_); rintro e w1 ⟨rfl, rfl⟩) | (go_at_call 14; (with_reducible refine (c0 _).mono ?_); rintro e w1 ⟨rfl, rfl⟩) | (go_at_call 14; (with_reducible refine (c1 _).mono ?_); rintro e w1 ⟨rfl, rfl⟩))
  refine bodyPost_ret (v := (.agg #[.int .i64 18, .int .i64 0, .int .i64 (o0 - 10), .int .i64 (o1 - 10), .int .i64 0, .int .i64 0, .int .i64 0, .int .i64 0, .string { data := #[] }, .slice none 0 0])) (by simp [results, Tryd.results13, go_sem, ↓IntWalk.iteOmega, *]) rfl ?_
  exact ⟨none, 0, rfl, Nat.le_refl _, reads_nil _ _, by (repeat (first | (with_reducible exact Below.refl _ _) | ((with_reducible refine Below.alloc ?_ ?hB _); (case hB => (first | omega | (simp; done) | (simp; omega)))) | ((with_reducible refine Below.setCell ?_ ?hB _); (case hB => (first | omega | (simp; done) | (simp; omega)))) | (with_reducible refine Below.drew ?_) | ((with_reducible refine below_ext_of ?_ ?hB); (case hB => (first | omega | (simp; done) | (simp; omega)))) | ((with_reducible refine Below.trans ?_ (Below.mono (by assumption) ?hB)); (case hB => (first | omega | (simp; done) | (simp; omega))))))⟩
end Go.Proofs.YtinnaiofgbjicaaDoor
