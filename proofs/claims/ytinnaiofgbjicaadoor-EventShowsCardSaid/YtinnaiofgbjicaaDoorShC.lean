/- The document's text of an event, walked. -/
import Derived.Test.YtinnaiofgbjicaaDoorShB
namespace Go.Proofs.YtinnaiofgbjicaaDoor
open Go.RowKit Go.Proofs.YtinnaiofgbjicaaDoorW.PrintWords
set_option linter.unusedSimpArgs false
set_option linter.unusedVariables false
set_option maxRecDepth 1000000
theorem big_ok (x y : ByteArray) (h : x.size ≤ 1000 ∧ y.size ≤ 1000) : ¬ 9223372036854775807 < x.size + y.size := by omega
theorem ba_app (x y : ByteArray) : (x ++ y).size = x.size + y.size := ByteArray.size_append
set_option maxHeartbeats 4000000 in
theorem ref_show0 (id a b : Int) (w : World) (hbd : (E4.mk 0 id a b).Bd) : Calls Tryd.prog 27 #[.agg #[.int .i64 0, .int .i64 id, .int .i64 a, .int .i64 b]] w fun en w' => en = .returned (.string (showS ⟨0, id, a, b⟩)) ∧ Below w.heap.size w w' := by
  have hid := hbd.id; have ha := hbd.a; have hb := hbd.b
  simp only at hid ha hb
  have z1 := itoS_size hid; have z2 := itoS_size ha; have z3 := itoS_size hb
  have c1 := fun w => ref_Decimal id w hid; have c2 := fun w => ref_Decimal a w ha; have c3 := fun w => ref_Decimal b w hb
  have cf : ∀ w, Calls Tryd.prog 48 #[.int .i64 0] w fun e w' => e = .returned (.string { data := #[117, 117] }) ∧ Below w.heap.size w w' := fun w => ref_formE 0 w (by omega)
  have HS := Lib.hid (show showS ⟨0, id, a, b⟩ = (((({ data := #[101, 114, 114, 111, 114] } ++ { data := #[32] }) ++ itoS id) ++ { data := #[32] }) ++ itoS a ++ { data := #[32] }) ++ itoS b from by
    show sp (sp (sp { data := #[101, 114, 114, 111, 114] } id) a) b = _
    unfold sp; simp only [ByteArray.append_assoc])
  clear hbd hid ha hb
  generalize itoS id = s1 at *; generalize itoS a = s2 at *; generalize itoS b = s3 at *
  go_enter Tryd.func27, Tryd.ntmps27
  go_wp2
  go_region_with (first | (go_at_call 55; (with_reducible refine (c1 _).mono ?_); rintro en w1 ⟨rfl, hb1⟩; obtain ⟨hc1, hf1⟩ := bcell hb1; have hz1 := hb1.size; (try simp only [World.size_alloc, World.size_setCell, World.size_drew] at hz1)))
  all_goals
    go_wp2_with (first | (go_at_call 48; (with_reducible refine (cf _).mono ?_); rintro en w4 ⟨rfl, hb4⟩; obtain ⟨hc4, hf4⟩ := bcell hb4; have hz4 := hb4.size; (try simp only [World.size_alloc, World.size_setCell, World.size_drew] at hz4)) | (go_at_call 55; (with_reducible refine (c2 _).mono ?_); rintro en w2 ⟨rfl, hb2⟩; obtain ⟨hc2, hf2⟩ := bcell hb2; have hz2 := hb2.size; (try simp only [World.size_alloc, World.size_setCell, World.size_drew] at hz2)) | (go_at_call 55; (with_reducible refine (c3 _).mono ?_); rintro en w3 ⟨rfl, hb3⟩; obtain ⟨hc3, hf3⟩ := bcell hb3; have hz3 := hb3.size; (try simp only [World.size_alloc, World.size_setCell, World.size_drew] at hz3)))
    go_ret
    refine ⟨?_, by (repeat (first | (with_reducible exact Below.refl _ _) | ((with_reducible refine Below.alloc ?_ ?hB _); (case hB => (first | omega | (simp; done) | (simp; omega)))) | ((with_reducible refine Below.setCell ?_ ?hB _); (case hB => (first | omega | (simp; done) | (simp; omega)))) | (with_reducible refine Below.drew ?_) | ((with_reducible refine below_ext_of ?_ ?hB); (case hB => (first | omega | (simp; done) | (simp; omega)))) | ((with_reducible refine Below.trans ?_ (Below.mono (by assumption) ?hB)); (case hB => (first | omega | (simp; done) | (simp; omega))))))⟩
    rw [HS.out]; rfl
set_option maxHeartbeats 4000000 in
theorem ref_show2 (id a b : Int) (w : World) (hbd : (E4.mk 2 id a b).Bd) : Calls Tryd.prog 27 #[.agg #[.int .i64 2, .int .i64 id, .int .i64 a, .int .i64 b]] w fun en w' => en = .returned (.string (showS ⟨2, id, a, b⟩)) ∧ Below w.heap.size w w' := by
  have hid := hbd.id; have ha := hbd.a; have hb := hbd.b
  simp only at hid ha hb
  have z1 := itoS_size hid; have z2 := itoS_size ha; have z3 := itoS_size hb
  have c1 := fun w => ref_Decimal id w hid; have c2 := fun w => ref_Decimal a w ha; have c3 := fun w => ref_Decimal b w hb
  have cf : ∀ w, Calls Tryd.prog 48 #[.int .i64 2] w fun e w' => e = .returned (.string { data := #[] }) ∧ Below w.heap.size w w' := fun w => ref_formE 2 w (by omega)
  have HS := Lib.hid (show showS ⟨2, id, a, b⟩ = ({ data := #[114, 101, 108, 101, 97, 115, 101] } ++ { data := #[32] }) ++ itoS id from by
    show sp { data := #[114, 101, 108, 101, 97, 115, 101] } id = _
    unfold sp; simp only [ByteArray.append_assoc])
  clear hbd hid ha hb
  generalize itoS id = s1 at *; generalize itoS a = s2 at *; generalize itoS b = s3 at *
  go_enter Tryd.func27, Tryd.ntmps27
  go_wp2
  go_region_with (first | (go_at_call 55; (with_reducible refine (c1 _).mono ?_); rintro en w1 ⟨rfl, hb1⟩; obtain ⟨hc1, hf1⟩ := bcell hb1; have hz1 := hb1.size; (try simp only [World.size_alloc, World.size_setCell, World.size_drew] at hz1)))
  all_goals
    go_wp2_with (first | (go_at_call 48; (with_reducible refine (cf _).mono ?_); rintro en w4 ⟨rfl, hb4⟩; obtain ⟨hc4, hf4⟩ := bcell hb4; have hz4 := hb4.size; (try simp only [World.size_alloc, World.size_setCell, World.size_drew] at hz4)) | (go_at_call 55; (with_reducible refine (c2 _).mono ?_); rintro en w2 ⟨rfl, hb2⟩; obtain ⟨hc2, hf2⟩ := bcell hb2; have hz2 := hb2.size; (try simp only [World.size_alloc, World.size_setCell, World.size_drew] at hz2)) | (go_at_call 55; (with_reducible refine (c3 _).mono ?_); rintro en w3 ⟨rfl, hb3⟩; obtain ⟨hc3, hf3⟩ := bcell hb3; have hz3 := hb3.size; (try simp only [World.size_alloc, World.size_setCell, World.size_drew] at hz3)))
    go_ret
    refine ⟨?_, by (repeat (first | (with_reducible exact Below.refl _ _) | ((with_reducible refine Below.alloc ?_ ?hB _); (case hB => (first | omega | (simp; done) | (simp; omega)))) | ((with_reducible refine Below.setCell ?_ ?hB _); (case hB => (first | omega | (simp; done) | (simp; omega)))) | (with_reducible refine Below.drew ?_) | ((with_reducible refine below_ext_of ?_ ?hB); (case hB => (first | omega | (simp; done) | (simp; omega)))) | ((with_reducible refine Below.trans ?_ (Below.mono (by assumption) ?hB)); (case hB => (first | omega | (simp; done) | (simp; omega))))))⟩
    rw [HS.out]; rfl
end Go.Proofs.YtinnaiofgbjicaaDoor
