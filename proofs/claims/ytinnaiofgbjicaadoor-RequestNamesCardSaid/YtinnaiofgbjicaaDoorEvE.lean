/- The message of an event whose numbers fit, walked. -/
import Derived.Test.YtinnaiofgbjicaaDoorEvD
import Derived.Test.YtinnaiofgbjicaaDoorFrA
namespace Go.Proofs.YtinnaiofgbjicaaDoor
open Go.RowKit Go.Proofs.YtinnaiofgbjicaaDoorW.PrintWords
set_option linter.unusedSimpArgs false
set_option linter.unusedVariables false
set_option maxRecDepth 1000000
set_option maxHeartbeats 2000000 in
theorem msg_k0 (id a b : Int) (w : World) (hbd : (E4.mk 0 id a b).Bd) (hp : packP (formE (E4.mk 0 id a b).k) (argsE (E4.mk 0 id a b)) = (0, bodyE (E4.mk 0 id a b))) (hm : mayM (128 + (E4.mk 0 id a b).k) (E4.mk 0 id a b).id (bodyE (E4.mk 0 id a b)).length = true) : Calls Tryd.prog 86 #[(.agg #[.int .i64 ((E4.mk 0 id a b)).k, .int .i64 ((E4.mk 0 id a b)).id, .int .i64 ((E4.mk 0 id a b)).a, .int .i64 ((E4.mk 0 id a b)).b])] w (MsgP w (E4.mk 0 id a b)) := by
  obtain ⟨e, he⟩ : ∃ e, E4.mk 0 id a b = e := ⟨_, rfl⟩
  have h0 : 0 ≤ e.k ∧ e.k ≤ 5 := by rw [← he]; exact ⟨(show (0 : Int) ≤ 0 by omega), (show (0 : Int) ≤ 5 by omega)⟩
  have HB := mayB_eq e h0 (by rw [← he]; exact hp)
  rw [he] at hbd hp hm ⊢
  have ci := fun w => ev_is e.k w; rw [show isE e.k = true from decide_eq_true h0] at ci; have cf := fun w => ev_form e.k w h0; have cn := fun w => ev_numbers e w h0; have hfl := formE_len e.k; have cp := fun A c w h1 h2 => args_PackB (formE e.k) A (argsE e) c w (bodyE e) (bodyE_byt e) hp h1 (by omega) (argsE_ok hbd) h2; have hbl := bodyE_len e; have cm := fun A c w => frame_May (128 + e.k) e.id A (bodyE e).length c w (by omega)
  rw [hm] at cm
  have hs : (formE e.k).size = 2 := by rw [← he]; rfl
  obtain ⟨l, hl⟩ : ∃ l, argsE e = l := ⟨_, rfl⟩
  obtain ⟨f, hf⟩ : ∃ f, formE e.k = f := ⟨_, rfl⟩
  have HY := Lib.hid (fun (h : mayE e = true) A c w' hs hb => MsgP.yes (w := w) (w' := w') (A := A) (c := c) h hs hb)
  have HN := Lib.hid (fun (h : mayE e = false) op id A n c w' hb => MsgP.no (w := w) (w' := w') (op := op) (id := id) (A := A) (n := n) (c := c) h hb)
  unfold mayB at HB
  obtain ⟨bb, hbb⟩ : ∃ b, bodyE e = b := ⟨_, rfl⟩
  rw [hl] at cn cp
  rw [hf] at cf cp HB hs
  rw [hbb] at cp cm HY HB hm
  unfold PackB at cp
  clear hl hf hp hbd hbb
  rw [hm] at HB
  clear hm
  obtain ⟨M, hM⟩ : ∃ M, MsgP w e = M := ⟨_, rfl⟩
  rw [hM] at HY HN ⊢
  clear hM
  obtain ⟨me, hme⟩ : ∃ me, mayE e = me := ⟨_, rfl⟩
  rw [hme] at HY HN HB
  clear hme
  have HBB := Lib.hid HB
  clear HB
  subst he
  simp only at *
  have hs1 : 1 < f.size := by omega
  have hs2 : 0 < f.size := by omega
  have HS := Lib.hid hs
  clear hs
  have cm : ∀ A c w, Calls Tryd.prog 44 #[(.agg #[.int .i64 (128), .int .i64 (id), .slice (A) (bb.length) (c)])] w fun e w' => e = .returned (.bool true) ∧ Below w.heap.size w w' := cm
  have HY' := Lib.hid (show me = true → ∀ A c w', BS w' A bb c → Below w.heap.size w w' → M (.returned (.tuple #[(.agg #[.int .i64 (128), .int .i64 (id), .slice (A) (bb.length) (c)]), .bool true])) w' from fun h A c w' h1 h2 => HY.out h A c w' h1 h2)
  by_cases q3 : 1 ≤ a
  · have t3 : 1 ≤ a := q3
    by_cases q2 : a ≤ 12
    · have t2 : a ≤ 12 := q2
      by_cases q1 : b ≤ 255
      · have t1 : decide (b ≤ 255) = true := decide_eq_true q1
        have HV := Lib.hid (show me = true from by rw [HBB.out]; have := HS.out; exact decide_eq_true ⟨by first | rfl | trivial, by omega, by omega, by omega⟩)
        go_enter Tryd.func86, Tryd.ntmps86
        go_wp2_with (first | (go_at_call 49; (with_reducible refine (ci _).mono ?_); rintro e w1 ⟨rfl, rfl⟩) | (go_at_call 50; (with_reducible refine (cf _).mono ?_); rintro en w1 ⟨rfl, hb1⟩; obtain ⟨hc1, hf1⟩ := bcell hb1; have hz1 := hb1.size; (try simp only [World.size_alloc, World.size_setCell, World.size_drew] at hz1)) | (go_at_call 52; (with_reducible refine (cn _).mono ?_); rintro en w2 ⟨A2, c2, rfl, hr2, hb2⟩; obtain ⟨hc2, hf2⟩ := bcell hb2; have hz2 := hb2.size; replace hr2 := Lib.hid hr2; (try simp only [World.size_alloc, World.size_setCell, World.size_drew] at hz2)) | (go_at_call 58; (with_reducible refine (cp _ _ _ hr2.out.1 hr2.out.2).mono ?_); rintro en w3 ⟨A3, c3, rfl, hs3, hb3⟩; obtain ⟨hc3, hf3⟩ := bcell hb3; have hz3 := hb3.size; replace hs3 := Lib.hid hs3; (try simp only [World.size_alloc, World.size_setCell, World.size_drew] at hz3)) | (go_at_call 44; (with_reducible refine (cm _ _ _).mono ?_); rintro en w4 ⟨rfl, hb4⟩; obtain ⟨hc4, hf4⟩ := bcell hb4; have hz4 := hb4.size; (try simp only [World.size_alloc, World.size_setCell, World.size_drew] at hz4)))
        refine bodyPost_ret (v := .tuple #[(.agg #[.int .i64 (128), .int .i64 (id), .slice (A3) (bb.length) (c3)]), .bool true]) (by simp [results, Tryd.results86, go_sem, ↓IntWalk.iteOmega, *]) rfl ?_
        exact HY'.out HV.out _ _ _ (BS.set3 (hs3.out.below (by (repeat (first | (with_reducible exact Below.refl _ _) | ((with_reducible refine Below.alloc ?_ ?hB _); (case hB => (first | omega | (simp; done) | (simp; omega)))) | ((with_reducible refine Below.setCell ?_ ?hB _); (case hB => (first | omega | (simp; done) | (simp; omega)))) | (with_reducible refine Below.drew ?_) | ((with_reducible refine below_ext_of ?_ ?hB); (case hB => (first | omega | (simp; done) | (simp; omega)))) | ((with_reducible refine Below.trans ?_ (Below.mono (by assumption) ?hB)); (case hB => (first | omega | (simp; done) | (simp; omega)))))))) ((show Below (w.heap.size + 2) ((w.alloc _).alloc (.cells #[.int .i64 0, .int .i64 0, .slice none 0 0] 24)) w4 from by (repeat (first | (with_reducible exact Below.refl _ _) | ((with_reducible refine Below.alloc ?_ ?hB _); (case hB => (first | omega | (simp; done) | (simp; omega)))) | ((with_reducible refine Below.setCell ?_ ?hB _); (case hB => (first | omega | (simp; done) | (simp; omega)))) | (with_reducible refine Below.drew ?_) | ((with_reducible refine below_ext_of ?_ ?hB); (case hB => (first | omega | (simp; done) | (simp; omega)))) | ((with_reducible refine Below.trans ?_ (Below.mono (by assumption) ?hB)); (case hB => (first | omega | (simp; done) | (simp; omega))))))).block (w.heap.size + 1) (by omega)) (by rw [← World.size_alloc]; exact heap_alloc_new _ _) _ _ _) (by (repeat (first | (with_reducible exact Below.refl _ _) | ((with_reducible refine Below.alloc ?_ ?hB _); (case hB => (first | omega | (simp; done) | (simp; omega)))) | ((with_reducible refine Below.setCell ?_ ?hB _); (case hB => (first | omega | (simp; done) | (simp; omega)))) | (with_reducible refine Below.drew ?_) | ((with_reducible refine below_ext_of ?_ ?hB); (case hB => (first | omega | (simp; done) | (simp; omega)))) | ((with_reducible refine Below.trans ?_ (Below.mono (by assumption) ?hB)); (case hB => (first | omega | (simp; done) | (simp; omega)))))))
      · have t1 : decide (b ≤ 255) = false := decide_eq_false q1
        have HV := Lib.hid (show me = false from by rw [HBB.out]; exact decide_eq_false (fun h => by have := HS.out; have h1 := h.2.1; have h2 := h.2.2.1; have h3 := h.2.2.2; omega))
        go_enter Tryd.func86, Tryd.ntmps86
        go_wp2_with (first | (go_at_call 49; (with_reducible refine (ci _).mono ?_); rintro e w1 ⟨rfl, rfl⟩) | (go_at_call 50; (with_reducible refine (cf _).mono ?_); rintro en w1 ⟨rfl, hb1⟩; obtain ⟨hc1, hf1⟩ := bcell hb1; have hz1 := hb1.size; (try simp only [World.size_alloc, World.size_setCell, World.size_drew] at hz1)) | (go_at_call 52; (with_reducible refine (cn _).mono ?_); rintro en w2 ⟨A2, c2, rfl, hr2, hb2⟩; obtain ⟨hc2, hf2⟩ := bcell hb2; have hz2 := hb2.size; replace hr2 := Lib.hid hr2; (try simp only [World.size_alloc, World.size_setCell, World.size_drew] at hz2)) | (go_at_call 58; (with_reducible refine (cp _ _ _ hr2.out.1 hr2.out.2).mono ?_); rintro en w3 ⟨A3, c3, rfl, hs3, hb3⟩; obtain ⟨hc3, hf3⟩ := bcell hb3; have hz3 := hb3.size; replace hs3 := Lib.hid hs3; (try simp only [World.size_alloc, World.size_setCell, World.size_drew] at hz3)) | (go_at_call 44; (with_reducible refine (cm _ _ _).mono ?_); rintro en w4 ⟨rfl, hb4⟩; obtain ⟨hc4, hf4⟩ := bcell hb4; have hz4 := hb4.size; (try simp only [World.size_alloc, World.size_setCell, World.size_drew] at hz4)))
        refine bodyPost_ret (v := .tuple #[(.agg #[.int .i64 (128), .int .i64 (id), .slice (A3) (bb.length) (c3)]), .bool false]) (by simp [results, Tryd.results86, go_sem, ↓IntWalk.iteOmega, *]) rfl ?_
        exact HN.out HV.out _ _ _ _ _ _ (by (repeat (first | (with_reducible exact Below.refl _ _) | ((with_reducible refine Below.alloc ?_ ?hB _); (case hB => (first | omega | (simp; done) | (simp; omega)))) | ((with_reducible refine Below.setCell ?_ ?hB _); (case hB => (first | omega | (simp; done) | (simp; omega)))) | (with_reducible refine Below.drew ?_) | ((with_reducible refine below_ext_of ?_ ?hB); (case hB => (first | omega | (simp; done) | (simp; omega)))) | ((with_reducible refine Below.trans ?_ (Below.mono (by assumption) ?hB)); (case hB => (first | omega | (simp; done) | (simp; omega)))))))
    · have t2 : 12 < a := by omega
      have HV := Lib.hid (show me = false from by rw [HBB.out]; exact decide_eq_false (fun h => by have := HS.out; have h1 := h.2.1; have h2 := h.2.2.1; have h3 := h.2.2.2; omega))
      go_enter Tryd.func86, Tryd.ntmps86
      go_wp2_with (first | (go_at_call 49; (with_reducible refine (ci _).mono ?_); rintro e w1 ⟨rfl, rfl⟩) | (go_at_call 50; (with_reducible refine (cf _).mono ?_); rintro en w1 ⟨rfl, hb1⟩; obtain ⟨hc1, hf1⟩ := bcell hb1; have hz1 := hb1.size; (try simp only [World.size_alloc, World.size_setCell, World.size_drew] at hz1)) | (go_at_call 52; (with_reducible refine (cn _).mono ?_); rintro en w2 ⟨A2, c2, rfl, hr2, hb2⟩; obtain ⟨hc2, hf2⟩ := bcell hb2; have hz2 := hb2.size; replace hr2 := Lib.hid hr2; (try simp only [World.size_alloc, World.size_setCell, World.size_drew] at hz2)) | (go_at_call 58; (with_reducible refine (cp _ _ _ hr2.out.1 hr2.out.2).mono ?_); rintro en w3 ⟨A3, c3, rfl, hs3, hb3⟩; obtain ⟨hc3, hf3⟩ := bcell hb3; have hz3 := hb3.size; replace hs3 := Lib.hid hs3; (try simp only [World.size_alloc, World.size_setCell, World.size_drew] at hz3)) | (go_at_call 44; (with_reducible refine (cm _ _ _).mono ?_); rintro en w4 ⟨rfl, hb4⟩; obtain ⟨hc4, hf4⟩ := bcell hb4; have hz4 := hb4.size; (try simp only [World.size_alloc, World.size_setCell, World.size_drew] at hz4)))
      refine bodyPost_ret (v := .tuple #[(.agg #[.int .i64 (128), .int .i64 (id), .slice (A3) (bb.length) (c3)]), .bool false]) (by simp [results, Tryd.results86, go_sem, ↓IntWalk.iteOmega, *]) rfl ?_
      exact HN.out HV.out _ _ _ _ _ _ (by (repeat (first | (with_reducible exact Below.refl _ _) | ((with_reducible refine Below.alloc ?_ ?hB _); (case hB => (first | omega | (simp; done) | (simp; omega)))) | ((with_reducible refine Below.setCell ?_ ?hB _); (case hB => (first | omega | (simp; done) | (simp; omega)))) | (with_reducible refine Below.drew ?_) | ((with_reducible refine below_ext_of ?_ ?hB); (case hB => (first | omega | (simp; done) | (simp; omega)))) | ((with_reducible refine Below.trans ?_ (Below.mono (by assumption) ?hB)); (case hB => (first | omega | (simp; done) | (simp; omega)))))))
  · have t3 : a < 1 := by omega
    have HV := Lib.hid (show me = false from by rw [HBB.out]; exact decide_eq_false (fun h => by have := HS.out; have h1 := h.2.1; have h2 := h.2.2.1; have h3 := h.2.2.2; omega))
    go_enter Tryd.func86, Tryd.ntmps86
    go_wp2_with (first | (go_at_call 49; (with_reducible refine (ci _).mono ?_); rintro e w1 ⟨rfl, rfl⟩) | (go_at_call 50; (with_reducible refine (cf _).mono ?_); rintro en w1 ⟨rfl, hb1⟩; obtain ⟨hc1, hf1⟩ := bcell hb1; have hz1 := hb1.size; (try simp only [World.size_alloc, World.size_setCell, World.size_drew] at hz1)) | (go_at_call 52; (with_reducible refine (cn _).mono ?_); rintro en w2 ⟨A2, c2, rfl, hr2, hb2⟩; obtain ⟨hc2, hf2⟩ := bcell hb2; have hz2 := hb2.size; replace hr2 := Lib.hid hr2; (try simp only [World.size_alloc, World.size_setCell, World.size_drew] at hz2)) | (go_at_call 58; (with_reducible refine (cp _ _ _ hr2.out.1 hr2.out.2).mono ?_); rintro en w3 ⟨A3, c3, rfl, hs3, hb3⟩; obtain ⟨hc3, hf3⟩ := bcell hb3; have hz3 := hb3.size; replace hs3 := Lib.hid hs3; (try simp only [World.size_alloc, World.size_setCell, World.size_drew] at hz3)) | (go_at_call 44; (with_reducible refine (cm _ _ _).mono ?_); rintro en w4 ⟨rfl, hb4⟩; obtain ⟨hc4, hf4⟩ := bcell hb4; have hz4 := hb4.size; (try simp only [World.size_alloc, World.size_setCell, World.size_drew] at hz4)))
    refine bodyPost_ret (v := .tuple #[(.agg #[.int .i64 (128), .int .i64 (id), .slice (A3) (bb.length) (c3)]), .bool false]) (by simp [results, Tryd.results86, go_sem, ↓IntWalk.iteOmega, *]) rfl ?_
    exact HN.out HV.out _ _ _ _ _ _ (by (repeat (first | (with_reducible exact Below.refl _ _) | ((with_reducible refine Below.alloc ?_ ?hB _); (case hB => (first | omega | (simp; done) | (simp; omega)))) | ((with_reducible refine Below.setCell ?_ ?hB _); (case hB => (first | omega | (simp; done) | (simp; omega)))) | (with_reducible refine Below.drew ?_) | ((with_reducible refine below_ext_of ?_ ?hB); (case hB => (first | omega | (simp; done) | (simp; omega)))) | ((with_reducible refine Below.trans ?_ (Below.mono (by assumption) ?hB)); (case hB => (first | omega | (simp; done) | (simp; omega)))))))
set_option maxHeartbeats 2000000 in
theorem msg_k1 (id a b : Int) (w : World) (hbd : (E4.mk 1 id a b).Bd) (hp : packP (formE (E4.mk 1 id a b).k) (argsE (E4.mk 1 id a b)) = (0, bodyE (E4.mk 1 id a b))) (hm : mayM (128 + (E4.mk 1 id a b).k) (E4.mk 1 id a b).id (bodyE (E4.mk 1 id a b)).length = true) : Calls Tryd.prog 86 #[(.agg #[.int .i64 ((E4.mk 1 id a b)).k, .int .i64 ((E4.mk 1 id a b)).id, .int .i64 ((E4.mk 1 id a b)).a, .int .i64 ((E4.mk 1 id a b)).b])] w (MsgP w (E4.mk 1 id a b)) := by
  obtain ⟨e, he⟩ : ∃ e, E4.mk 1 id a b = e := ⟨_, rfl⟩
  have h0 : 0 ≤ e.k ∧ e.k ≤ 5 := by rw [← he]; exact ⟨(show (0 : Int) ≤ 1 by omega), (show (1 : Int) ≤ 5 by omega)⟩
  have HB := mayB_eq e h0 (by rw [← he]; exact hp)
  rw [he] at hbd hp hm ⊢
  have ci := fun w => ev_is e.k w; rw [show isE e.k = true from decide_eq_true h0] at ci; have cf := fun w => ev_form e.k w h0; have cn := fun w => ev_numbers e w h0; have hfl := formE_len e.k; have cp := fun A c w h1 h2 => args_PackB (formE e.k) A (argsE e) c w (bodyE e) (bodyE_byt e) hp h1 (by omega) (argsE_ok hbd) h2; have hbl := bodyE_len e; have cm := fun A c w => frame_May (128 + e.k) e.id A (bodyE e).length c w (by omega)
  rw [hm] at cm
  have hs : (formE e.k).size = 1 := by rw [← he]; rfl
  obtain ⟨l, hl⟩ : ∃ l, argsE e = l := ⟨_, rfl⟩
  obtain ⟨f, hf⟩ : ∃ f, formE e.k = f := ⟨_, rfl⟩
  have HY := Lib.hid (fun (h : mayE e = true) A c w' hs hb => MsgP.yes (w := w) (w' := w') (A := A) (c := c) h hs hb)
  have HN := Lib.hid (fun (h : mayE e = false) op id A n c w' hb => MsgP.no (w := w) (w' := w') (op := op) (id := id) (A := A) (n := n) (c := c) h hb)
  unfold mayB at HB
  obtain ⟨bb, hbb⟩ : ∃ b, bodyE e = b := ⟨_, rfl⟩
  rw [hl] at cn cp
  rw [hf] at cf cp HB hs
  rw [hbb] at cp cm HY HB hm
  unfold PackB at cp
  clear hl hf hp hbd hbb
  rw [hm] at HB
  clear hm
  obtain ⟨M, hM⟩ : ∃ M, MsgP w e = M := ⟨_, rfl⟩
  rw [hM] at HY HN ⊢
  clear hM
  obtain ⟨me, hme⟩ : ∃ me, mayE e = me := ⟨_, rfl⟩
  rw [hme] at HY HN HB
  clear hme
  have HBB := Lib.hid HB
  clear HB
  subst he
  simp only at *
  have hs1 : f.size ≤ 1 := by omega
  have hs2 : 0 < f.size := by omega
  have HS := Lib.hid hs
  clear hs
  have cm : ∀ A c w, Calls Tryd.prog 44 #[(.agg #[.int .i64 (129), .int .i64 (id), .slice (A) (bb.length) (c)])] w fun e w' => e = .returned (.bool true) ∧ Below w.heap.size w w' := cm
  have HY' := Lib.hid (show me = true → ∀ A c w', BS w' A bb c → Below w.heap.size w w' → M (.returned (.tuple #[(.agg #[.int .i64 (129), .int .i64 (id), .slice (A) (bb.length) (c)]), .bool true])) w' from fun h A c w' h1 h2 => HY.out h A c w' h1 h2)
  rcases (show (b ≤ 0 ∧ 0 ≤ b) ∨ ¬ b = 0 by omega) with ⟨q3, q3'⟩ | q3
  · have t3 : (b == 0) = true := by rw [show b = 0 by omega]; rfl
    have tB : decide (b ≤ 255) = true := decide_eq_true (by omega)
    by_cases q2 : 1 ≤ a
    · have t2 : 1 ≤ a := q2
      by_cases q1 : a ≤ 12
      · have t1 : a ≤ 12 := q1
        have HV := Lib.hid (show me = true from by rw [HBB.out]; have := HS.out; exact decide_eq_true ⟨by first | rfl | trivial, by omega, by omega, by omega⟩)
        go_enter Tryd.func86, Tryd.ntmps86
        go_wp2_with (first | (go_at_call 49; (with_reducible refine (ci _).mono ?_); rintro e w1 ⟨rfl, rfl⟩) | (go_at_call 50; (with_reducible refine (cf _).mono ?_); rintro en w1 ⟨rfl, hb1⟩; obtain ⟨hc1, hf1⟩ := bcell hb1; have hz1 := hb1.size; (try simp only [World.size_alloc, World.size_setCell, World.size_drew] at hz1)) | (go_at_call 52; (with_reducible refine (cn _).mono ?_); rintro en w2 ⟨A2, c2, rfl, hr2, hb2⟩; obtain ⟨hc2, hf2⟩ := bcell hb2; have hz2 := hb2.size; replace hr2 := Lib.hid hr2; (try simp only [World.size_alloc, World.size_setCell, World.size_drew] at hz2)) | (go_at_call 58; (with_reducible refine (cp _ _ _ hr2.out.1 hr2.out.2).mono ?_); rintro en w3 ⟨A3, c3, rfl, hs3, hb3⟩; obtain ⟨hc3, hf3⟩ := bcell hb3; have hz3 := hb3.size; replace hs3 := Lib.hid hs3; (try simp only [World.size_alloc, World.size_setCell, World.size_drew] at hz3)) | (go_at_call 44; (with_reducible refine (cm _ _ _).mono ?_); rintro en w4 ⟨rfl, hb4⟩; obtain ⟨hc4, hf4⟩ := bcell hb4; have hz4 := hb4.size; (try simp only [World.size_alloc, World.size_setCell, World.size_drew] at hz4)))
        refine bodyPost_ret (v := .tuple #[(.agg #[.int .i64 (129), .int .i64 (id), .slice (A3) (bb.length) (c3)]), .bool true]) (by simp [results, Tryd.results86, go_sem, ↓IntWalk.iteOmega, *]) rfl ?_
        exact HY'.out HV.out _ _ _ (BS.set3 (hs3.out.below (by (repeat (first | (with_reducible exact Below.refl _ _) | ((with_reducible refine Below.alloc ?_ ?hB _); (case hB => (first | omega | (simp; done) | (simp; omega)))) | ((with_reducible refine Below.setCell ?_ ?hB _); (case hB => (first | omega | (simp; done) | (simp; omega)))) | (with_reducible refine Below.drew ?_) | ((with_reducible refine below_ext_of ?_ ?hB); (case hB => (first | omega | (simp; done) | (simp; omega)))) | ((with_reducible refine Below.trans ?_ (Below.mono (by assumption) ?hB)); (case hB => (first | omega | (simp; done) | (simp; omega)))))))) ((show Below (w.heap.size + 2) ((w.alloc _).alloc (.cells #[.int .i64 0, .int .i64 0, .slice none 0 0] 24)) w4 from by (repeat (first | (with_reducible exact Below.refl _ _) | ((with_reducible refine Below.alloc ?_ ?hB _); (case hB => (first | omega | (simp; done) | (simp; omega)))) | ((with_reducible refine Below.setCell ?_ ?hB _); (case hB => (first | omega | (simp; done) | (simp; omega)))) | (with_reducible refine Below.drew ?_) | ((with_reducible refine below_ext_of ?_ ?hB); (case hB => (first | omega | (simp; done) | (simp; omega)))) | ((with_reducible refine Below.trans ?_ (Below.mono (by assumption) ?hB)); (case hB => (first | omega | (simp; done) | (simp; omega))))))).block (w.heap.size + 1) (by omega)) (by rw [← World.size_alloc]; exact heap_alloc_new _ _) _ _ _) (by (repeat (first | (with_reducible exact Below.refl _ _) | ((with_reducible refine Below.alloc ?_ ?hB _); (case hB => (first | omega | (simp; done) | (simp; omega)))) | ((with_reducible refine Below.setCell ?_ ?hB _); (case hB => (first | omega | (simp; done) | (simp; omega)))) | (with_reducible refine Below.drew ?_) | ((with_reducible refine below_ext_of ?_ ?hB); (case hB => (first | omega | (simp; done) | (simp; omega)))) | ((with_reducible refine Below.trans ?_ (Below.mono (by assumption) ?hB)); (case hB => (first | omega | (simp; done) | (simp; omega)))))))
      · have t1 : 12 < a := by omega
        have HV := Lib.hid (show me = false from by rw [HBB.out]; exact decide_eq_false (fun h => by have := HS.out; have h1 := h.2.1; have h2 := h.2.2.1; have h3 := h.2.2.2; omega))
        go_enter Tryd.func86, Tryd.ntmps86
        go_wp2_with (first | (go_at_call 49; (with_reducible refine (ci _).mono ?_); rintro e w1 ⟨rfl, rfl⟩) | (go_at_call 50; (with_reducible refine (cf _).mono ?_); rintro en w1 ⟨rfl, hb1⟩; obtain ⟨hc1, hf1⟩ := bcell hb1; have hz1 := hb1.size; (try simp only [World.size_alloc, World.size_setCell, World.size_drew] at hz1)) | (go_at_call 52; (with_reducible refine (cn _).mono ?_); rintro en w2 ⟨A2, c2, rfl, hr2, hb2⟩; obtain ⟨hc2, hf2⟩ := bcell hb2; have hz2 := hb2.size; replace hr2 := Lib.hid hr2; (try simp only [World.size_alloc, World.size_setCell, World.size_drew] at hz2)) | (go_at_call 58; (with_reducible refine (cp _ _ _ hr2.out.1 hr2.out.2).mono ?_); rintro en w3 ⟨A3, c3, rfl, hs3, hb3⟩; obtain ⟨hc3, hf3⟩ := bcell hb3; have hz3 := hb3.size; replace hs3 := Lib.hid hs3; (try simp only [World.size_alloc, World.size_setCell, World.size_drew] at hz3)) | (go_at_call 44; (with_reducible refine (cm _ _ _).mono ?_); rintro en w4 ⟨rfl, hb4⟩; obtain ⟨hc4, hf4⟩ := bcell hb4; have hz4 := hb4.size; (try simp only [World.size_alloc, World.size_setCell, World.size_drew] at hz4)))
        refine bodyPost_ret (v := .tuple #[(.agg #[.int .i64 (129), .int .i64 (id), .slice (A3) (bb.length) (c3)]), .bool false]) (by simp [results, Tryd.results86, go_sem, ↓IntWalk.iteOmega, *]) rfl ?_
        exact HN.out HV.out _ _ _ _ _ _ (by (repeat (first | (with_reducible exact Below.refl _ _) | ((with_reducible refine Below.alloc ?_ ?hB _); (case hB => (first | omega | (simp; done) | (simp; omega)))) | ((with_reducible refine Below.setCell ?_ ?hB _); (case hB => (first | omega | (simp; done) | (simp; omega)))) | (with_reducible refine Below.drew ?_) | ((with_reducible refine below_ext_of ?_ ?hB); (case hB => (first | omega | (simp; done) | (simp; omega)))) | ((with_reducible refine Below.trans ?_ (Below.mono (by assumption) ?hB)); (case hB => (first | omega | (simp; done) | (simp; omega)))))))
    · have t2 : a < 1 := by omega
      have HV := Lib.hid (show me = false from by rw [HBB.out]; exact decide_eq_false (fun h => by have := HS.out; have h1 := h.2.1; have h2 := h.2.2.1; have h3 := h.2.2.2; omega))
      go_enter Tryd.func86, Tryd.ntmps86
      go_wp2_with (first | (go_at_call 49; (with_reducible refine (ci _).mono ?_); rintro e w1 ⟨rfl, rfl⟩) | (go_at_call 50; (with_reducible refine (cf _).mono ?_); rintro en w1 ⟨rfl, hb1⟩; obtain ⟨hc1, hf1⟩ := bcell hb1; have hz1 := hb1.size; (try simp only [World.size_alloc, World.size_setCell, World.size_drew] at hz1)) | (go_at_call 52; (with_reducible refine (cn _).mono ?_); rintro en w2 ⟨A2, c2, rfl, hr2, hb2⟩; obtain ⟨hc2, hf2⟩ := bcell hb2; have hz2 := hb2.size; replace hr2 := Lib.hid hr2; (try simp only [World.size_alloc, World.size_setCell, World.size_drew] at hz2)) | (go_at_call 58; (with_reducible refine (cp _ _ _ hr2.out.1 hr2.out.2).mono ?_); rintro en w3 ⟨A3, c3, rfl, hs3, hb3⟩; obtain ⟨hc3, hf3⟩ := bcell hb3; have hz3 := hb3.size; replace hs3 := Lib.hid hs3; (try simp only [World.size_alloc, World.size_setCell, World.size_drew] at hz3)) | (go_at_call 44; (with_reducible refine (cm _ _ _).mono ?_); rintro en w4 ⟨rfl, hb4⟩; obtain ⟨hc4, hf4⟩ := bcell hb4; have hz4 := hb4.size; (try simp only [World.size_alloc, World.size_setCell, World.size_drew] at hz4)))
      refine bodyPost_ret (v := .tuple #[(.agg #[.int .i64 (129), .int .i64 (id), .slice (A3) (bb.length) (c3)]), .bool false]) (by simp [results, Tryd.results86, go_sem, ↓IntWalk.iteOmega, *]) rfl ?_
      exact HN.out HV.out _ _ _ _ _ _ (by (repeat (first | (with_reducible exact Below.refl _ _) | ((with_reducible refine Below.alloc ?_ ?hB _); (case hB => (first | omega | (simp; done) | (simp; omega)))) | ((with_reducible refine Below.setCell ?_ ?hB _); (case hB => (first | omega | (simp; done) | (simp; omega)))) | (with_reducible refine Below.drew ?_) | ((with_reducible refine below_ext_of ?_ ?hB); (case hB => (first | omega | (simp; done) | (simp; omega)))) | ((with_reducible refine Below.trans ?_ (Below.mono (by assumption) ?hB)); (case hB => (first | omega | (simp; done) | (simp; omega)))))))
  · have t3 : (b == 0) = false := by simp [q3]
    have HV := Lib.hid (show me = false from by rw [HBB.out]; exact decide_eq_false (fun h => by have := HS.out; have h1 := h.2.1; have h2 := h.2.2.1; have h3 := h.2.2.2; omega))
    go_enter Tryd.func86, Tryd.ntmps86
    go_wp2_with (first | (go_at_call 49; (with_reducible refine (ci _).mono ?_); rintro e w1 ⟨rfl, rfl⟩) | (go_at_call 50; (with_reducible refine (cf _).mono ?_); rintro en w1 ⟨rfl, hb1⟩; obtain ⟨hc1, hf1⟩ := bcell hb1; have hz1 := hb1.size; (try simp only [World.size_alloc, World.size_setCell, World.size_drew] at hz1)) | (go_at_call 52; (with_reducible refine (cn _).mono ?_); rintro en w2 ⟨A2, c2, rfl, hr2, hb2⟩; obtain ⟨hc2, hf2⟩ := bcell hb2; have hz2 := hb2.size; replace hr2 := Lib.hid hr2; (try simp only [World.size_alloc, World.size_setCell, World.size_drew] at hz2)) | (go_at_call 58; (with_reducible refine (cp _ _ _ hr2.out.1 hr2.out.2).mono ?_); rintro en w3 ⟨A3, c3, rfl, hs3, hb3⟩; obtain ⟨hc3, hf3⟩ := bcell hb3; have hz3 := hb3.size; replace hs3 := Lib.hid hs3; (try simp only [World.size_alloc, World.size_setCell, World.size_drew] at hz3)) | (go_at_call 44; (with_reducible refine (cm _ _ _).mono ?_); rintro en w4 ⟨rfl, hb4⟩; obtain ⟨hc4, hf4⟩ := bcell hb4; have hz4 := hb4.size; (try simp only [World.size_alloc, World.size_setCell, World.size_drew] at hz4)))
    refine bodyPost_ret (v := .tuple #[(.agg #[.int .i64 (129), .int .i64 (id), .slice (A3) (bb.length) (c3)]), .bool false]) (by simp [results, Tryd.results86, go_sem, ↓IntWalk.iteOmega, *]) rfl ?_
    exact HN.out HV.out _ _ _ _ _ _ (by (repeat (first | (with_reducible exact Below.refl _ _) | ((with_reducible refine Below.alloc ?_ ?hB _); (case hB => (first | omega | (simp; done) | (simp; omega)))) | ((with_reducible refine Below.setCell ?_ ?hB _); (case hB => (first | omega | (simp; done) | (simp; omega)))) | (with_reducible refine Below.drew ?_) | ((with_reducible refine below_ext_of ?_ ?hB); (case hB => (first | omega | (simp; done) | (simp; omega)))) | ((with_reducible refine Below.trans ?_ (Below.mono (by assumption) ?hB)); (case hB => (first | omega | (simp; done) | (simp; omega)))))))
set_option maxHeartbeats 2000000 in
theorem msg_k2 (id a b : Int) (w : World) (hbd : (E4.mk 2 id a b).Bd) (hp : packP (formE (E4.mk 2 id a b).k) (argsE (E4.mk 2 id a b)) = (0, bodyE (E4.mk 2 id a b))) (hm : mayM (128 + (E4.mk 2 id a b).k) (E4.mk 2 id a b).id (bodyE (E4.mk 2 id a b)).length = true) : Calls Tryd.prog 86 #[(.agg #[.int .i64 ((E4.mk 2 id a b)).k, .int .i64 ((E4.mk 2 id a b)).id, .int .i64 ((E4.mk 2 id a b)).a, .int .i64 ((E4.mk 2 id a b)).b])] w (MsgP w (E4.mk 2 id a b)) := by
  obtain ⟨e, he⟩ : ∃ e, E4.mk 2 id a b = e := ⟨_, rfl⟩
  have h0 : 0 ≤ e.k ∧ e.k ≤ 5 := by rw [← he]; exact ⟨(show (0 : Int) ≤ 2 by omega), (show (2 : Int) ≤ 5 by omega)⟩
  have HB := mayB_eq e h0 (by rw [← he]; exact hp)
  rw [he] at hbd hp hm ⊢
  have ci := fun w => ev_is e.k w; rw [show isE e.k = true from decide_eq_true h0] at ci; have cf := fun w => ev_form e.k w h0; have cn := fun w => ev_numbers e w h0; have hfl := formE_len e.k; have cp := fun A c w h1 h2 => args_PackB (formE e.k) A (argsE e) c w (bodyE e) (bodyE_byt e) hp h1 (by omega) (argsE_ok hbd) h2; have hbl := bodyE_len e; have cm := fun A c w => frame_May (128 + e.k) e.id A (bodyE e).length c w (by omega)
  rw [hm] at cm
  have hs : (formE e.k).size = 0 := by rw [← he]; rfl
  obtain ⟨l, hl⟩ : ∃ l, argsE e = l := ⟨_, rfl⟩
  obtain ⟨f, hf⟩ : ∃ f, formE e.k = f := ⟨_, rfl⟩
  have HY := Lib.hid (fun (h : mayE e = true) A c w' hs hb => MsgP.yes (w := w) (w' := w') (A := A) (c := c) h hs hb)
  have HN := Lib.hid (fun (h : mayE e = false) op id A n c w' hb => MsgP.no (w := w) (w' := w') (op := op) (id := id) (A := A) (n := n) (c := c) h hb)
  unfold mayB at HB
  obtain ⟨bb, hbb⟩ : ∃ b, bodyE e = b := ⟨_, rfl⟩
  rw [hl] at cn cp
  rw [hf] at cf cp HB hs
  rw [hbb] at cp cm HY HB hm
  unfold PackB at cp
  clear hl hf hp hbd hbb
  rw [hm] at HB
  clear hm
  obtain ⟨M, hM⟩ : ∃ M, MsgP w e = M := ⟨_, rfl⟩
  rw [hM] at HY HN ⊢
  clear hM
  obtain ⟨me, hme⟩ : ∃ me, mayE e = me := ⟨_, rfl⟩
  rw [hme] at HY HN HB
  clear hme
  have HBB := Lib.hid HB
  clear HB
  subst he
  simp only at *
  have hs1 : f.size ≤ 1 := by omega
  have hs2 : f.size ≤ 0 := by omega
  have HS := Lib.hid hs
  clear hs
  have cm : ∀ A c w, Calls Tryd.prog 44 #[(.agg #[.int .i64 (130), .int .i64 (id), .slice (A) (bb.length) (c)])] w fun e w' => e = .returned (.bool true) ∧ Below w.heap.size w w' := cm
  have HY' := Lib.hid (show me = true → ∀ A c w', BS w' A bb c → Below w.heap.size w w' → M (.returned (.tuple #[(.agg #[.int .i64 (130), .int .i64 (id), .slice (A) (bb.length) (c)]), .bool true])) w' from fun h A c w' h1 h2 => HY.out h A c w' h1 h2)
  rcases (show (b ≤ 0 ∧ 0 ≤ b) ∨ ¬ b = 0 by omega) with ⟨q2, q2'⟩ | q2
  · have t2 : (b == 0) = true := by rw [show b = 0 by omega]; rfl
    rcases (show (a ≤ 0 ∧ 0 ≤ a) ∨ ¬ a = 0 by omega) with ⟨q1, q1'⟩ | q1
    · have t1 : (a == 0) = true := by rw [show a = 0 by omega]; rfl
      have HV := Lib.hid (show me = true from by rw [HBB.out]; have := HS.out; exact decide_eq_true ⟨by first | rfl | trivial, by omega, by omega, by omega⟩)
      go_enter Tryd.func86, Tryd.ntmps86
      go_wp2_with (first | (go_at_call 49; (with_reducible refine (ci _).mono ?_); rintro e w1 ⟨rfl, rfl⟩) | (go_at_call 50; (with_reducible refine (cf _).mono ?_); rintro en w1 ⟨rfl, hb1⟩; obtain ⟨hc1, hf1⟩ := bcell hb1; have hz1 := hb1.size; (try simp only [World.size_alloc, World.size_setCell, World.size_drew] at hz1)) | (go_at_call 52; (with_reducible refine (cn _).mono ?_); rintro en w2 ⟨A2, c2, rfl, hr2, hb2⟩; obtain ⟨hc2, hf2⟩ := bcell hb2; have hz2 := hb2.size; replace hr2 := Lib.hid hr2; (try simp only [World.size_alloc, World.size_setCell, World.size_drew] at hz2)) | (go_at_call 58; (with_reducible refine (cp _ _ _ hr2.out.1 hr2.out.2).mono ?_); rintro en w3 ⟨A3, c3, rfl, hs3, hb3⟩; obtain ⟨hc3, hf3⟩ := bcell hb3; have hz3 := hb3.size; replace hs3 := Lib.hid hs3; (try simp only [World.size_alloc, World.size_setCell, World.size_drew] at hz3)) | (go_at_call 44; (with_reducible refine (cm _ _ _).mono ?_); rintro en w4 ⟨rfl, hb4⟩; obtain ⟨hc4, hf4⟩ := bcell hb4; have hz4 := hb4.size; (try simp only [World.size_alloc, World.size_setCell, World.size_drew] at hz4)))
      refine bodyPost_ret (v := .tuple #[(.agg #[.int .i64 (130), .int .i64 (id), .slice (A3) (bb.length) (c3)]), .bool true]) (by simp [results, Tryd.results86, go_sem, ↓IntWalk.iteOmega, *]) rfl ?_
      exact HY'.out HV.out _ _ _ (BS.set3 (hs3.out.below (by (repeat (first | (with_reducible exact Below.refl _ _) | ((with_reducible refine Below.alloc ?_ ?hB _); (case hB => (first | omega | (simp; done) | (simp; omega)))) | ((with_reducible refine Below.setCell ?_ ?hB _); (case hB => (first | omega | (simp; done) | (simp; omega)))) | (with_reducible refine Below.drew ?_) | ((with_reducible refine below_ext_of ?_ ?hB); (case hB => (first | omega | (simp; done) | (simp; omega)))) | ((with_reducible refine Below.trans ?_ (Below.mono (by assumption) ?hB)); (case hB => (first | omega | (simp; done) | (simp; omega)))))))) ((show Below (w.heap.size + 2) ((w.alloc _).alloc (.cells #[.int .i64 0, .int .i64 0, .slice none 0 0] 24)) w4 from by (repeat (first | (with_reducible exact Below.refl _ _) | ((with_reducible refine Below.alloc ?_ ?hB _); (case hB => (first | omega | (simp; done) | (simp; omega)))) | ((with_reducible refine Below.setCell ?_ ?hB _); (case hB => (first | omega | (simp; done) | (simp; omega)))) | (with_reducible refine Below.drew ?_) | ((with_reducible refine below_ext_of ?_ ?hB); (case hB => (first | omega | (simp; done) | (simp; omega)))) | ((with_reducible refine Below.trans ?_ (Below.mono (by assumption) ?hB)); (case hB => (first | omega | (simp; done) | (simp; omega))))))).block (w.heap.size + 1) (by omega)) (by rw [← World.size_alloc]; exact heap_alloc_new _ _) _ _ _) (by (repeat (first | (with_reducible exact Below.refl _ _) | ((with_reducible refine Below.alloc ?_ ?hB _); (case hB => (first | omega | (simp; done) | (simp; omega)))) | ((with_reducible refine Below.setCell ?_ ?hB _); (case hB => (first | omega | (simp; done) | (simp; omega)))) | (with_reducible refine Below.drew ?_) | ((with_reducible refine below_ext_of ?_ ?hB); (case hB => (first | omega | (simp; done) | (simp; omega)))) | ((with_reducible refine Below.trans ?_ (Below.mono (by assumption) ?hB)); (case hB => (first | omega | (simp; done) | (simp; omega)))))))
    · have t1 : (a == 0) = false := by simp [q1]
      have HV := Lib.hid (show me = false from by rw [HBB.out]; exact decide_eq_false (fun h => by have := HS.out; have h1 := h.2.1; have h2 := h.2.2.1; have h3 := h.2.2.2; omega))
      go_enter Tryd.func86, Tryd.ntmps86
      go_wp2_with (first | (go_at_call 49; (with_reducible refine (ci _).mono ?_); rintro e w1 ⟨rfl, rfl⟩) | (go_at_call 50; (with_reducible refine (cf _).mono ?_); rintro en w1 ⟨rfl, hb1⟩; obtain ⟨hc1, hf1⟩ := bcell hb1; have hz1 := hb1.size; (try simp only [World.size_alloc, World.size_setCell, World.size_drew] at hz1)) | (go_at_call 52; (with_reducible refine (cn _).mono ?_); rintro en w2 ⟨A2, c2, rfl, hr2, hb2⟩; obtain ⟨hc2, hf2⟩ := bcell hb2; have hz2 := hb2.size; replace hr2 := Lib.hid hr2; (try simp only [World.size_alloc, World.size_setCell, World.size_drew] at hz2)) | (go_at_call 58; (with_reducible refine (cp _ _ _ hr2.out.1 hr2.out.2).mono ?_); rintro en w3 ⟨A3, c3, rfl, hs3, hb3⟩; obtain ⟨hc3, hf3⟩ := bcell hb3; have hz3 := hb3.size; replace hs3 := Lib.hid hs3; (try simp only [World.size_alloc, World.size_setCell, World.size_drew] at hz3)) | (go_at_call 44; (with_reducible refine (cm _ _ _).mono ?_); rintro en w4 ⟨rfl, hb4⟩; obtain ⟨hc4, hf4⟩ := bcell hb4; have hz4 := hb4.size; (try simp only [World.size_alloc, World.size_setCell, World.size_drew] at hz4)))
      refine bodyPost_ret (v := .tuple #[(.agg #[.int .i64 (130), .int .i64 (id), .slice (A3) (bb.length) (c3)]), .bool false]) (by simp [results, Tryd.results86, go_sem, ↓IntWalk.iteOmega, *]) rfl ?_
      exact HN.out HV.out _ _ _ _ _ _ (by (repeat (first | (with_reducible exact Below.refl _ _) | ((with_reducible refine Below.alloc ?_ ?hB _); (case hB => (first | omega | (simp; done) | (simp; omega)))) | ((with_reducible refine Below.setCell ?_ ?hB _); (case hB => (first | omega | (simp; done) | (simp; omega)))) | (with_reducible refine Below.drew ?_) | ((with_reducible refine below_ext_of ?_ ?hB); (case hB => (first | omega | (simp; done) | (simp; omega)))) | ((with_reducible refine Below.trans ?_ (Below.mono (by assumption) ?hB)); (case hB => (first | omega | (simp; done) | (simp; omega)))))))
  · have t2 : (b == 0) = false := by simp [q2]
    have HV := Lib.hid (show me = false from by rw [HBB.out]; exact decide_eq_false (fun h => by have := HS.out; have h1 := h.2.1; have h2 := h.2.2.1; have h3 := h.2.2.2; omega))
    go_enter Tryd.func86, Tryd.ntmps86
    go_wp2_with (first | (go_at_call 49; (with_reducible refine (ci _).mono ?_); rintro e w1 ⟨rfl, rfl⟩) | (go_at_call 50; (with_reducible refine (cf _).mono ?_); rintro en w1 ⟨rfl, hb1⟩; obtain ⟨hc1, hf1⟩ := bcell hb1; have hz1 := hb1.size; (try simp only [World.size_alloc, World.size_setCell, World.size_drew] at hz1)) | (go_at_call 52; (with_reducible refine (cn _).mono ?_); rintro en w2 ⟨A2, c2, rfl, hr2, hb2⟩; obtain ⟨hc2, hf2⟩ := bcell hb2; have hz2 := hb2.size; replace hr2 := Lib.hid hr2; (try simp only [World.size_alloc, World.size_setCell, World.size_drew] at hz2)) | (go_at_call 58; (with_reducible refine (cp _ _ _ hr2.out.1 hr2.out.2).mono ?_); rintro en w3 ⟨A3, c3, rfl, hs3, hb3⟩; obtain ⟨hc3, hf3⟩ := bcell hb3; have hz3 := hb3.size; replace hs3 := Lib.hid hs3; (try simp only [World.size_alloc, World.size_setCell, World.size_drew] at hz3)) | (go_at_call 44; (with_reducible refine (cm _ _ _).mono ?_); rintro en w4 ⟨rfl, hb4⟩; obtain ⟨hc4, hf4⟩ := bcell hb4; have hz4 := hb4.size; (try simp only [World.size_alloc, World.size_setCell, World.size_drew] at hz4)))
    refine bodyPost_ret (v := .tuple #[(.agg #[.int .i64 (130), .int .i64 (id), .slice (A3) (bb.length) (c3)]), .bool false]) (by simp [results, Tryd.results86, go_sem, ↓IntWalk.iteOmega, *]) rfl ?_
    exact HN.out HV.out _ _ _ _ _ _ (by (repeat (first | (with_reducible exact Below.refl _ _) | ((with_reducible refine Below.alloc ?_ ?hB _); (case hB => (first | omega | (simp; done) | (simp; omega)))) | ((with_reducible refine Below.setCell ?_ ?hB _); (case hB => (first | omega | (simp; done) | (simp; omega)))) | (with_reducible refine Below.drew ?_) | ((with_reducible refine below_ext_of ?_ ?hB); (case hB => (first | omega | (simp; done) | (simp; omega)))) | ((with_reducible refine Below.trans ?_ (Below.mono (by assumption) ?hB)); (case hB => (first | omega | (simp; done) | (simp; omega)))))))
set_option maxHeartbeats 2000000 in
theorem msg_k3 (id a b : Int) (w : World) (hbd : (E4.mk 3 id a b).Bd) (hp : packP (formE (E4.mk 3 id a b).k) (argsE (E4.mk 3 id a b)) = (0, bodyE (E4.mk 3 id a b))) (hm : mayM (128 + (E4.mk 3 id a b).k) (E4.mk 3 id a b).id (bodyE (E4.mk 3 id a b)).length = true) : Calls Tryd.prog 86 #[(.agg #[.int .i64 ((E4.mk 3 id a b)).k, .int .i64 ((E4.mk 3 id a b)).id, .int .i64 ((E4.mk 3 id a b)).a, .int .i64 ((E4.mk 3 id a b)).b])] w (MsgP w (E4.mk 3 id a b)) := by
  obtain ⟨e, he⟩ : ∃ e, E4.mk 3 id a b = e := ⟨_, rfl⟩
  have h0 : 0 ≤ e.k ∧ e.k ≤ 5 := by rw [← he]; exact ⟨(show (0 : Int) ≤ 3 by omega), (show (3 : Int) ≤ 5 by omega)⟩
  have HB := mayB_eq e h0 (by rw [← he]; exact hp)
  rw [he] at hbd hp hm ⊢
  have ci := fun w => ev_is e.k w; rw [show isE e.k = true from decide_eq_true h0] at ci; have cf := fun w => ev_form e.k w h0; have cn := fun w => ev_numbers e w h0; have hfl := formE_len e.k; have cp := fun A c w h1 h2 => args_PackB (formE e.k) A (argsE e) c w (bodyE e) (bodyE_byt e) hp h1 (by omega) (argsE_ok hbd) h2; have hbl := bodyE_len e; have cm := fun A c w => frame_May (128 + e.k) e.id A (bodyE e).length c w (by omega)
  rw [hm] at cm
  have hs : (formE e.k).size = 2 := by rw [← he]; rfl
  obtain ⟨l, hl⟩ : ∃ l, argsE e = l := ⟨_, rfl⟩
  obtain ⟨f, hf⟩ : ∃ f, formE e.k = f := ⟨_, rfl⟩
  have HY := Lib.hid (fun (h : mayE e = true) A c w' hs hb => MsgP.yes (w := w) (w' := w') (A := A) (c := c) h hs hb)
  have HN := Lib.hid (fun (h : mayE e = false) op id A n c w' hb => MsgP.no (w := w) (w' := w') (op := op) (id := id) (A := A) (n := n) (c := c) h hb)
  unfold mayB at HB
  obtain ⟨bb, hbb⟩ : ∃ b, bodyE e = b := ⟨_, rfl⟩
  rw [hl] at cn cp
  rw [hf] at cf cp HB hs
  rw [hbb] at cp cm HY HB hm
  unfold PackB at cp
  clear hl hf hp hbd hbb
  rw [hm] at HB
  clear hm
  obtain ⟨M, hM⟩ : ∃ M, MsgP w e = M := ⟨_, rfl⟩
  rw [hM] at HY HN ⊢
  clear hM
  obtain ⟨me, hme⟩ : ∃ me, mayE e = me := ⟨_, rfl⟩
  rw [hme] at HY HN HB
  clear hme
  have HBB := Lib.hid HB
  clear HB
  subst he
  simp only at *
  have hs1 : 1 < f.size := by omega
  have hs2 : 0 < f.size := by omega
  have HS := Lib.hid hs
  clear hs
  have cm : ∀ A c w, Calls Tryd.prog 44 #[(.agg #[.int .i64 (131), .int .i64 (id), .slice (A) (bb.length) (c)])] w fun e w' => e = .returned (.bool true) ∧ Below w.heap.size w w' := cm
  have HY' := Lib.hid (show me = true → ∀ A c w', BS w' A bb c → Below w.heap.size w w' → M (.returned (.tuple #[(.agg #[.int .i64 (131), .int .i64 (id), .slice (A) (bb.length) (c)]), .bool true])) w' from fun h A c w' h1 h2 => HY.out h A c w' h1 h2)
  have HV := Lib.hid (show me = true from by rw [HBB.out]; have := HS.out; exact decide_eq_true ⟨by first | rfl | trivial, by omega, by omega, by omega⟩)
  go_enter Tryd.func86, Tryd.ntmps86
  go_wp2_with (first | (go_at_call 49; (with_reducible refine (ci _).mono ?_); rintro e w1 ⟨rfl, rfl⟩) | (go_at_call 50; (with_reducible refine (cf _).mono ?_); rintro en w1 ⟨rfl, hb1⟩; obtain ⟨hc1, hf1⟩ := bcell hb1; have hz1 := hb1.size; (try simp only [World.size_alloc, World.size_setCell, World.size_drew] at hz1)) | (go_at_call 52; (with_reducible refine (cn _).mono ?_); rintro en w2 ⟨A2, c2, rfl, hr2, hb2⟩; obtain ⟨hc2, hf2⟩ := bcell hb2; have hz2 := hb2.size; replace hr2 := Lib.hid hr2; (try simp only [World.size_alloc, World.size_setCell, World.size_drew] at hz2)) | (go_at_call 58; (with_reducible refine (cp _ _ _ hr2.out.1 hr2.out.2).mono ?_); rintro en w3 ⟨A3, c3, rfl, hs3, hb3⟩; obtain ⟨hc3, hf3⟩ := bcell hb3; have hz3 := hb3.size; replace hs3 := Lib.hid hs3; (try simp only [World.size_alloc, World.size_setCell, World.size_drew] at hz3)) | (go_at_call 44; (with_reducible refine (cm _ _ _).mono ?_); rintro en w4 ⟨rfl, hb4⟩; obtain ⟨hc4, hf4⟩ := bcell hb4; have hz4 := hb4.size; (try simp only [World.size_alloc, World.size_setCell, World.size_drew] at hz4)))
  refine bodyPost_ret (v := .tuple #[(.agg #[.int .i64 (131), .int .i64 (id), .slice (A3) (bb.length) (c3)]), .bool true]) (by simp [results, Tryd.results86, go_sem, ↓IntWalk.iteOmega, *]) rfl ?_
  exact HY'.out HV.out _ _ _ (BS.set3 (hs3.out.below (by (repeat (first | (with_reducible exact Below.refl _ _) | ((with_reducible refine Below.alloc ?_ ?hB _); (case hB => (first | omega | (simp; done) | (simp; omega)))) | ((with_reducible refine Below.setCell ?_ ?hB _); (case hB => (first | omega | (simp; done) | (simp; omega)))) | (with_reducible refine Below.drew ?_) | ((with_reducible refine below_ext_of ?_ ?hB); (case hB => (first | omega | (simp; done) | (simp; omega)))) | ((with_reducible refine Below.trans ?_ (Below.mono (by assumption) ?hB)); (case hB => (first | omega | (simp; done) | (simp; omega)))))))) ((show Below (w.heap.size + 2) ((w.alloc _).alloc (.cells #[.int .i64 0, .int .i64 0, .slice none 0 0] 24)) w4 from by (repeat (first | (with_reducible exact Below.refl _ _) | ((with_reducible refine Below.alloc ?_ ?hB _); (case hB => (first | omega | (simp; done) | (simp; omega)))) | ((with_reducible refine Below.setCell ?_ ?hB _); (case hB => (first | omega | (simp; done) | (simp; omega)))) | (with_reducible refine Below.drew ?_) | ((with_reducible refine below_ext_of ?_ ?hB); (case hB => (first | omega | (simp; done) | (simp; omega)))) | ((with_reducible refine Below.trans ?_ (Below.mono (by assumption) ?hB)); (case hB => (first | omega | (simp; done) | (simp; omega))))))).block (w.heap.size + 1) (by omega)) (by rw [← World.size_alloc]; exact heap_alloc_new _ _) _ _ _) (by (repeat (first | (with_reducible exact Below.refl _ _) | ((with_reducible refine Below.alloc ?_ ?hB _); (case hB => (first | omega | (simp; done) | (simp; omega)))) | ((with_reducible refine Below.setCell ?_ ?hB _); (case hB => (first | omega | (simp; done) | (simp; omega)))) | (with_reducible refine Below.drew ?_) | ((with_reducible refine below_ext_of ?_ ?hB); (case hB => (first | omega | (simp; done) | (simp; omega)))) | ((with_reducible refine Below.trans ?_ (Below.mono (by assumption) ?hB)); (case hB => (first | omega | (simp; done) | (simp; omega)))))))
set_option maxHeartbeats 2000000 in
theorem msg_k4 (id a b : Int) (w : World) (hbd : (E4.mk 4 id a b).Bd) (hp : packP (formE (E4.mk 4 id a b).k) (argsE (E4.mk 4 id a b)) = (0, bodyE (E4.mk 4 id a b))) (hm : mayM (128 + (E4.mk 4 id a b).k) (E4.mk 4 id a b).id (bodyE (E4.mk 4 id a b)).length = true) : Calls Tryd.prog 86 #[(.agg #[.int .i64 ((E4.mk 4 id a b)).k, .int .i64 ((E4.mk 4 id a b)).id, .int .i64 ((E4.mk 4 id a b)).a, .int .i64 ((E4.mk 4 id a b)).b])] w (MsgP w (E4.mk 4 id a b)) := by
  obtain ⟨e, he⟩ : ∃ e, E4.mk 4 id a b = e := ⟨_, rfl⟩
  have h0 : 0 ≤ e.k ∧ e.k ≤ 5 := by rw [← he]; exact ⟨(show (0 : Int) ≤ 4 by omega), (show (4 : Int) ≤ 5 by omega)⟩
  have HB := mayB_eq e h0 (by rw [← he]; exact hp)
  rw [he] at hbd hp hm ⊢
  have ci := fun w => ev_is e.k w; rw [show isE e.k = true from decide_eq_true h0] at ci; have cf := fun w => ev_form e.k w h0; have cn := fun w => ev_numbers e w h0; have hfl := formE_len e.k; have cp := fun A c w h1 h2 => args_PackB (formE e.k) A (argsE e) c w (bodyE e) (bodyE_byt e) hp h1 (by omega) (argsE_ok hbd) h2; have hbl := bodyE_len e; have cm := fun A c w => frame_May (128 + e.k) e.id A (bodyE e).length c w (by omega)
  rw [hm] at cm
  have hs : (formE e.k).size = 2 := by rw [← he]; rfl
  obtain ⟨l, hl⟩ : ∃ l, argsE e = l := ⟨_, rfl⟩
  obtain ⟨f, hf⟩ : ∃ f, formE e.k = f := ⟨_, rfl⟩
  have HY := Lib.hid (fun (h : mayE e = true) A c w' hs hb => MsgP.yes (w := w) (w' := w') (A := A) (c := c) h hs hb)
  have HN := Lib.hid (fun (h : mayE e = false) op id A n c w' hb => MsgP.no (w := w) (w' := w') (op := op) (id := id) (A := A) (n := n) (c := c) h hb)
  unfold mayB at HB
  obtain ⟨bb, hbb⟩ : ∃ b, bodyE e = b := ⟨_, rfl⟩
  rw [hl] at cn cp
  rw [hf] at cf cp HB hs
  rw [hbb] at cp cm HY HB hm
  unfold PackB at cp
  clear hl hf hp hbd hbb
  rw [hm] at HB
  clear hm
  obtain ⟨M, hM⟩ : ∃ M, MsgP w e = M := ⟨_, rfl⟩
  rw [hM] at HY HN ⊢
  clear hM
  obtain ⟨me, hme⟩ : ∃ me, mayE e = me := ⟨_, rfl⟩
  rw [hme] at HY HN HB
  clear hme
  have HBB := Lib.hid HB
  clear HB
  subst he
  simp only at *
  have hs1 : 1 < f.size := by omega
  have hs2 : 0 < f.size := by omega
  have HS := Lib.hid hs
  clear hs
  have cm : ∀ A c w, Calls Tryd.prog 44 #[(.agg #[.int .i64 (132), .int .i64 (id), .slice (A) (bb.length) (c)])] w fun e w' => e = .returned (.bool true) ∧ Below w.heap.size w w' := cm
  have HY' := Lib.hid (show me = true → ∀ A c w', BS w' A bb c → Below w.heap.size w w' → M (.returned (.tuple #[(.agg #[.int .i64 (132), .int .i64 (id), .slice (A) (bb.length) (c)]), .bool true])) w' from fun h A c w' h1 h2 => HY.out h A c w' h1 h2)
  have HV := Lib.hid (show me = true from by rw [HBB.out]; have := HS.out; exact decide_eq_true ⟨by first | rfl | trivial, by omega, by omega, by omega⟩)
  go_enter Tryd.func86, Tryd.ntmps86
  go_wp2_with (first | (go_at_call 49; (with_reducible refine (ci _).mono ?_); rintro e w1 ⟨rfl, rfl⟩) | (go_at_call 50; (with_reducible refine (cf _).mono ?_); rintro en w1 ⟨rfl, hb1⟩; obtain ⟨hc1, hf1⟩ := bcell hb1; have hz1 := hb1.size; (try simp only [World.size_alloc, World.size_setCell, World.size_drew] at hz1)) | (go_at_call 52; (with_reducible refine (cn _).mono ?_); rintro en w2 ⟨A2, c2, rfl, hr2, hb2⟩; obtain ⟨hc2, hf2⟩ := bcell hb2; have hz2 := hb2.size; replace hr2 := Lib.hid hr2; (try simp only [World.size_alloc, World.size_setCell, World.size_drew] at hz2)) | (go_at_call 58; (with_reducible refine (cp _ _ _ hr2.out.1 hr2.out.2).mono ?_); rintro en w3 ⟨A3, c3, rfl, hs3, hb3⟩; obtain ⟨hc3, hf3⟩ := bcell hb3; have hz3 := hb3.size; replace hs3 := Lib.hid hs3; (try simp only [World.size_alloc, World.size_setCell, World.size_drew] at hz3)) | (go_at_call 44; (with_reducible refine (cm _ _ _).mono ?_); rintro en w4 ⟨rfl, hb4⟩; obtain ⟨hc4, hf4⟩ := bcell hb4; have hz4 := hb4.size; (try simp only [World.size_alloc, World.size_setCell, World.size_drew] at hz4)))
  refine bodyPost_ret (v := .tuple #[(.agg #[.int .i64 (132), .int .i64 (id), .slice (A3) (bb.length) (c3)]), .bool true]) (by simp [results, Tryd.results86, go_sem, ↓IntWalk.iteOmega, *]) rfl ?_
  exact HY'.out HV.out _ _ _ (BS.set3 (hs3.out.below (by (repeat (first | (with_reducible exact Below.refl _ _) | ((with_reducible refine Below.alloc ?_ ?hB _); (case hB => (first | omega | (simp; done) | (simp; omega)))) | ((with_reducible refine Below.setCell ?_ ?hB _); (case hB => (first | omega | (simp; done) | (simp; omega)))) | (with_reducible refine Below.drew ?_) | ((with_reducible refine below_ext_of ?_ ?hB); (case hB => (first | omega | (simp; done) | (simp; omega)))) | ((with_reducible refine Below.trans ?_ (Below.mono (by assumption) ?hB)); (case hB => (first | omega | (simp; done) | (simp; omega)))))))) ((show Below (w.heap.size + 2) ((w.alloc _).alloc (.cells #[.int .i64 0, .int .i64 0, .slice none 0 0] 24)) w4 from by (repeat (first | (with_reducible exact Below.refl _ _) | ((with_reducible refine Below.alloc ?_ ?hB _); (case hB => (first | omega | (simp; done) | (simp; omega)))) | ((with_reducible refine Below.setCell ?_ ?hB _); (case hB => (first | omega | (simp; done) | (simp; omega)))) | (with_reducible refine Below.drew ?_) | ((with_reducible refine below_ext_of ?_ ?hB); (case hB => (first | omega | (simp; done) | (simp; omega)))) | ((with_reducible refine Below.trans ?_ (Below.mono (by assumption) ?hB)); (case hB => (first | omega | (simp; done) | (simp; omega))))))).block (w.heap.size + 1) (by omega)) (by rw [← World.size_alloc]; exact heap_alloc_new _ _) _ _ _) (by (repeat (first | (with_reducible exact Below.refl _ _) | ((with_reducible refine Below.alloc ?_ ?hB _); (case hB => (first | omega | (simp; done) | (simp; omega)))) | ((with_reducible refine Below.setCell ?_ ?hB _); (case hB => (first | omega | (simp; done) | (simp; omega)))) | (with_reducible refine Below.drew ?_) | ((with_reducible refine below_ext_of ?_ ?hB); (case hB => (first | omega | (simp; done) | (simp; omega)))) | ((with_reducible refine Below.trans ?_ (Below.mono (by assumption) ?hB)); (case hB => (first | omega | (simp; done) | (simp; omega)))))))
set_option maxHeartbeats 2000000 in
theorem msg_k5 (id a b : Int) (w : World) (hbd : (E4.mk 5 id a b).Bd) (hp : packP (formE (E4.mk 5 id a b).k) (argsE (E4.mk 5 id a b)) = (0, bodyE (E4.mk 5 id a b))) (hm : mayM (128 + (E4.mk 5 id a b).k) (E4.mk 5 id a b).id (bodyE (E4.mk 5 id a b)).length = true) : Calls Tryd.prog 86 #[(.agg #[.int .i64 ((E4.mk 5 id a b)).k, .int .i64 ((E4.mk 5 id a b)).id, .int .i64 ((E4.mk 5 id a b)).a, .int .i64 ((E4.mk 5 id a b)).b])] w (MsgP w (E4.mk 5 id a b)) := by
  obtain ⟨e, he⟩ : ∃ e, E4.mk 5 id a b = e := ⟨_, rfl⟩
  have h0 : 0 ≤ e.k ∧ e.k ≤ 5 := by rw [← he]; exact ⟨(show (0 : Int) ≤ 5 by omega), (show (5 : Int) ≤ 5 by omega)⟩
  have HB := mayB_eq e h0 (by rw [← he]; exact hp)
  rw [he] at hbd hp hm ⊢
  have ci := fun w => ev_is e.k w; rw [show isE e.k = true from decide_eq_true h0] at ci; have cf := fun w => ev_form e.k w h0; have cn := fun w => ev_numbers e w h0; have hfl := formE_len e.k; have cp := fun A c w h1 h2 => args_PackB (formE e.k) A (argsE e) c w (bodyE e) (bodyE_byt e) hp h1 (by omega) (argsE_ok hbd) h2; have hbl := bodyE_len e; have cm := fun A c w => frame_May (128 + e.k) e.id A (bodyE e).length c w (by omega)
  rw [hm] at cm
  have hs : (formE e.k).size = 0 := by rw [← he]; rfl
  obtain ⟨l, hl⟩ : ∃ l, argsE e = l := ⟨_, rfl⟩
  obtain ⟨f, hf⟩ : ∃ f, formE e.k = f := ⟨_, rfl⟩
  have HY := Lib.hid (fun (h : mayE e = true) A c w' hs hb => MsgP.yes (w := w) (w' := w') (A := A) (c := c) h hs hb)
  have HN := Lib.hid (fun (h : mayE e = false) op id A n c w' hb => MsgP.no (w := w) (w' := w') (op := op) (id := id) (A := A) (n := n) (c := c) h hb)
  unfold mayB at HB
  obtain ⟨bb, hbb⟩ : ∃ b, bodyE e = b := ⟨_, rfl⟩
  rw [hl] at cn cp
  rw [hf] at cf cp HB hs
  rw [hbb] at cp cm HY HB hm
  unfold PackB at cp
  clear hl hf hp hbd hbb
  rw [hm] at HB
  clear hm
  obtain ⟨M, hM⟩ : ∃ M, MsgP w e = M := ⟨_, rfl⟩
  rw [hM] at HY HN ⊢
  clear hM
  obtain ⟨me, hme⟩ : ∃ me, mayE e = me := ⟨_, rfl⟩
  rw [hme] at HY HN HB
  clear hme
  have HBB := Lib.hid HB
  clear HB
  subst he
  simp only at *
  have hs1 : f.size ≤ 1 := by omega
  have hs2 : f.size ≤ 0 := by omega
  have HS := Lib.hid hs
  clear hs
  have cm : ∀ A c w, Calls Tryd.prog 44 #[(.agg #[.int .i64 (133), .int .i64 (id), .slice (A) (bb.length) (c)])] w fun e w' => e = .returned (.bool true) ∧ Below w.heap.size w w' := cm
  have HY' := Lib.hid (show me = true → ∀ A c w', BS w' A bb c → Below w.heap.size w w' → M (.returned (.tuple #[(.agg #[.int .i64 (133), .int .i64 (id), .slice (A) (bb.length) (c)]), .bool true])) w' from fun h A c w' h1 h2 => HY.out h A c w' h1 h2)
  rcases (show (b ≤ 0 ∧ 0 ≤ b) ∨ ¬ b = 0 by omega) with ⟨q2, q2'⟩ | q2
  · have t2 : (b == 0) = true := by rw [show b = 0 by omega]; rfl
    rcases (show (a ≤ 0 ∧ 0 ≤ a) ∨ ¬ a = 0 by omega) with ⟨q1, q1'⟩ | q1
    · have t1 : (a == 0) = true := by rw [show a = 0 by omega]; rfl
      have HV := Lib.hid (show me = true from by rw [HBB.out]; have := HS.out; exact decide_eq_true ⟨by first | rfl | trivial, by omega, by omega, by omega⟩)
      go_enter Tryd.func86, Tryd.ntmps86
      go_wp2_with (first | (go_at_call 49; (with_reducible refine (ci _).mono ?_); rintro e w1 ⟨rfl, rfl⟩) | (go_at_call 50; (with_reducible refine (cf _).mono ?_); rintro en w1 ⟨rfl, hb1⟩; obtain ⟨hc1, hf1⟩ := bcell hb1; have hz1 := hb1.size; (try simp only [World.size_alloc, World.size_setCell, World.size_drew] at hz1)) | (go_at_call 52; (with_reducible refine (cn _).mono ?_); rintro en w2 ⟨A2, c2, rfl, hr2, hb2⟩; obtain ⟨hc2, hf2⟩ := bcell hb2; have hz2 := hb2.size; replace hr2 := Lib.hid hr2; (try simp only [World.size_alloc, World.size_setCell, World.size_drew] at hz2)) | (go_at_call 58; (with_reducible refine (cp _ _ _ hr2.out.1 hr2.out.2).mono ?_); rintro en w3 ⟨A3, c3, rfl, hs3, hb3⟩; obtain ⟨hc3, hf3⟩ := bcell hb3; have hz3 := hb3.size; replace hs3 := Lib.hid hs3; (try simp only [World.size_alloc, World.size_setCell, World.size_drew] at hz3)) | (go_at_call 44; (with_reducible refine (cm _ _ _).mono ?_); rintro en w4 ⟨rfl, hb4⟩; obtain ⟨hc4, hf4⟩ := bcell hb4; have hz4 := hb4.size; (try simp only [World.size_alloc, World.size_setCell, World.size_drew] at hz4)))
      refine bodyPost_ret (v := .tuple #[(.agg #[.int .i64 (133), .int .i64 (id), .slice (A3) (bb.length) (c3)]), .bool true]) (by simp [results, Tryd.results86, go_sem, ↓IntWalk.iteOmega, *]) rfl ?_
      exact HY'.out HV.out _ _ _ (BS.set3 (hs3.out.below (by (repeat (first | (with_reducible exact Below.refl _ _) | ((with_reducible refine Below.alloc ?_ ?hB _); (case hB => (first | omega | (simp; done) | (simp; omega)))) | ((with_reducible refine Below.setCell ?_ ?hB _); (case hB => (first | omega | (simp; done) | (simp; omega)))) | (with_reducible refine Below.drew ?_) | ((with_reducible refine below_ext_of ?_ ?hB); (case hB => (first | omega | (simp; done) | (simp; omega)))) | ((with_reducible refine Below.trans ?_ (Below.mono (by assumption) ?hB)); (case hB => (first | omega | (simp; done) | (simp; omega)))))))) ((show Below (w.heap.size + 2) ((w.alloc _).alloc (.cells #[.int .i64 0, .int .i64 0, .slice none 0 0] 24)) w4 from by (repeat (first | (with_reducible exact Below.refl _ _) | ((with_reducible refine Below.alloc ?_ ?hB _); (case hB => (first | omega | (simp; done) | (simp; omega)))) | ((with_reducible refine Below.setCell ?_ ?hB _); (case hB => (first | omega | (simp; done) | (simp; omega)))) | (with_reducible refine Below.drew ?_) | ((with_reducible refine below_ext_of ?_ ?hB); (case hB => (first | omega | (simp; done) | (simp; omega)))) | ((with_reducible refine Below.trans ?_ (Below.mono (by assumption) ?hB)); (case hB => (first | omega | (simp; done) | (simp; omega))))))).block (w.heap.size + 1) (by omega)) (by rw [← World.size_alloc]; exact heap_alloc_new _ _) _ _ _) (by (repeat (first | (with_reducible exact Below.refl _ _) | ((with_reducible refine Below.alloc ?_ ?hB _); (case hB => (first | omega | (simp; done) | (simp; omega)))) | ((with_reducible refine Below.setCell ?_ ?hB _); (case hB => (first | omega | (simp; done) | (simp; omega)))) | (with_reducible refine Below.drew ?_) | ((with_reducible refine below_ext_of ?_ ?hB); (case hB => (first | omega | (simp; done) | (simp; omega)))) | ((with_reducible refine Below.trans ?_ (Below.mono (by assumption) ?hB)); (case hB => (first | omega | (simp; done) | (simp; omega)))))))
    · have t1 : (a == 0) = false := by simp [q1]
      have HV := Lib.hid (show me = false from by rw [HBB.out]; exact decide_eq_false (fun h => by have := HS.out; have h1 := h.2.1; have h2 := h.2.2.1; have h3 := h.2.2.2; omega))
      go_enter Tryd.func86, Tryd.ntmps86
      go_wp2_with (first | (go_at_call 49; (with_reducible refine (ci _).mono ?_); rintro e w1 ⟨rfl, rfl⟩) | (go_at_call 50; (with_reducible refine (cf _).mono ?_); rintro en w1 ⟨rfl, hb1⟩; obtain ⟨hc1, hf1⟩ := bcell hb1; have hz1 := hb1.size; (try simp only [World.size_alloc, World.size_setCell, World.size_drew] at hz1)) | (go_at_call 52; (with_reducible refine (cn _).mono ?_); rintro en w2 ⟨A2, c2, rfl, hr2, hb2⟩; obtain ⟨hc2, hf2⟩ := bcell hb2; have hz2 := hb2.size; replace hr2 := Lib.hid hr2; (try simp only [World.size_alloc, World.size_setCell, World.size_drew] at hz2)) | (go_at_call 58; (with_reducible refine (cp _ _ _ hr2.out.1 hr2.out.2).mono ?_); rintro en w3 ⟨A3, c3, rfl, hs3, hb3⟩; obtain ⟨hc3, hf3⟩ := bcell hb3; have hz3 := hb3.size; replace hs3 := Lib.hid hs3; (try simp only [World.size_alloc, World.size_setCell, World.size_drew] at hz3)) | (go_at_call 44; (with_reducible refine (cm _ _ _).mono ?_); rintro en w4 ⟨rfl, hb4⟩; obtain ⟨hc4, hf4⟩ := bcell hb4; have hz4 := hb4.size; (try simp only [World.size_alloc, World.size_setCell, World.size_drew] at hz4)))
      refine bodyPost_ret (v := .tuple #[(.agg #[.int .i64 (133), .int .i64 (id), .slice (A3) (bb.length) (c3)]), .bool false]) (by simp [results, Tryd.results86, go_sem, ↓IntWalk.iteOmega, *]) rfl ?_
      exact HN.out HV.out _ _ _ _ _ _ (by (repeat (first | (with_reducible exact Below.refl _ _) | ((with_reducible refine Below.alloc ?_ ?hB _); (case hB => (first | omega | (simp; done) | (simp; omega)))) | ((with_reducible refine Below.setCell ?_ ?hB _); (case hB => (first | omega | (simp; done) | (simp; omega)))) | (with_reducible refine Below.drew ?_) | ((with_reducible refine below_ext_of ?_ ?hB); (case hB => (first | omega | (simp; done) | (simp; omega)))) | ((with_reducible refine Below.trans ?_ (Below.mono (by assumption) ?hB)); (case hB => (first | omega | (simp; done) | (simp; omega)))))))
  · have t2 : (b == 0) = false := by simp [q2]
    have HV := Lib.hid (show me = false from by rw [HBB.out]; exact decide_eq_false (fun h => by have := HS.out; have h1 := h.2.1; have h2 := h.2.2.1; have h3 := h.2.2.2; omega))
    go_enter Tryd.func86, Tryd.ntmps86
    go_wp2_with (first | (go_at_call 49; (with_reducible refine (ci _).mono ?_); rintro e w1 ⟨rfl, rfl⟩) | (go_at_call 50; (with_reducible refine (cf _).mono ?_); rintro en w1 ⟨rfl, hb1⟩; obtain ⟨hc1, hf1⟩ := bcell hb1; have hz1 := hb1.size; (try simp only [World.size_alloc, World.size_setCell, World.size_drew] at hz1)) | (go_at_call 52; (with_reducible refine (cn _).mono ?_); rintro en w2 ⟨A2, c2, rfl, hr2, hb2⟩; obtain ⟨hc2, hf2⟩ := bcell hb2; have hz2 := hb2.size; replace hr2 := Lib.hid hr2; (try simp only [World.size_alloc, World.size_setCell, World.size_drew] at hz2)) | (go_at_call 58; (with_reducible refine (cp _ _ _ hr2.out.1 hr2.out.2).mono ?_); rintro en w3 ⟨A3, c3, rfl, hs3, hb3⟩; obtain ⟨hc3, hf3⟩ := bcell hb3; have hz3 := hb3.size; replace hs3 := Lib.hid hs3; (try simp only [World.size_alloc, World.size_setCell, World.size_drew] at hz3)) | (go_at_call 44; (with_reducible refine (cm _ _ _).mono ?_); rintro en w4 ⟨rfl, hb4⟩; obtain ⟨hc4, hf4⟩ := bcell hb4; have hz4 := hb4.size; (try simp only [World.size_alloc, World.size_setCell, World.size_drew] at hz4)))
    refine bodyPost_ret (v := .tuple #[(.agg #[.int .i64 (133), .int .i64 (id), .slice (A3) (bb.length) (c3)]), .bool false]) (by simp [results, Tryd.results86, go_sem, ↓IntWalk.iteOmega, *]) rfl ?_
    exact HN.out HV.out _ _ _ _ _ _ (by (repeat (first | (with_reducible exact Below.refl _ _) | ((with_reducible refine Below.alloc ?_ ?hB _); (case hB => (first | omega | (simp; done) | (simp; omega)))) | ((with_reducible refine Below.setCell ?_ ?hB _); (case hB => (first | omega | (simp; done) | (simp; omega)))) | (with_reducible refine Below.drew ?_) | ((with_reducible refine below_ext_of ?_ ?hB); (case hB => (first | omega | (simp; done) | (simp; omega)))) | ((with_reducible refine Below.trans ?_ (Below.mono (by assumption) ?hB)); (case hB => (first | omega | (simp; done) | (simp; omega)))))))
theorem ev_message (e : E4) (w : World) (hbd : e.Bd) : Calls Tryd.prog 86 #[(.agg #[.int .i64 (e).k, .int .i64 (e).id, .int .i64 (e).a, .int .i64 (e).b])] w (MsgP w e) := by
  cases hi : isE e.k
  · exact msg_not e w hi
  · have h0 : 0 ≤ e.k ∧ e.k ≤ 5 := of_decide_eq_true hi
    rcases pack_two e with hp | hp
    · cases hm : mayM (128 + e.k) e.id (bodyE e).length
      · exact msg_may e w hbd h0 hp hm
      · obtain ⟨k, id, a, b⟩ := e
        rcases (show k = 0 ∨ k = 1 ∨ k = 2 ∨ k = 3 ∨ k = 4 ∨ k = 5 by simp only at h0; omega) with rfl | rfl | rfl | rfl | rfl | rfl
        · exact msg_k0 id a b w hbd hp hm
        · exact msg_k1 id a b w hbd hp hm
        · exact msg_k2 id a b w hbd hp hm
        · exact msg_k3 id a b w hbd hp hm
        · exact msg_k4 id a b w hbd hp hm
        · exact msg_k5 id a b w hbd hp hm
    · exact msg_pack e w hbd h0 hp
end Go.Proofs.YtinnaiofgbjicaaDoor
