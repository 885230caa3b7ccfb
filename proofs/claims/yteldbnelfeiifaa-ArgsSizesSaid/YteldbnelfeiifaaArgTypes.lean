/- The law ArgsTypes, walked. -/
import Derived.Test.YteldbnelfeiifaaArgM
import Derived.Test.YteldbnelfeiifaaOpenV
namespace Go.Proofs.Yteldbnelfeiifaa
open Go.RowKit Go.Proofs.YteldbnelfeiifaaW.PrintWords
set_option linter.unusedSimpArgs false
set_option linter.unusedVariables false
set_option maxRecDepth 1000000
theorem isK_eq (x : V8) (k : Int) : isK x k = (x.kind == k) := by unfold isK; rw [Bool.eq_iff_iff]; simp
theorem few1 (x : V8) : fewL [x] = [fewX x] := rfl
theorem fewX_kind (x : V8) : (fewX x).kind = x.kind := rfl
theorem fewX_s (x : V8) : (fewX x).s.size ≤ 300 := by
  show (x.s.extract 0 (min x.s.size 300)).size ≤ 300
  rw [ByteArray.size_extract]; omega
theorem fewX_b (x : V8) : (fewX x).b.length ≤ 300 := by
  show (x.b.take (min x.b.length 300)).length ≤ 300
  simp; omega
theorem fewX_ok {x : V8} (h : x.Bd) : (fewX x).Ok := ⟨h.kind, h.n, by have := fewX_s x; omega, h.x0, h.y0, h.x1, h.y1, by have := fewX_b x; omega⟩
def FewP (w : World) (x : V8) (e : Ending) (w' : World) : Prop := ∃ ad Ab m c, e = .returned (.slice (some ad) 1 c) ∧ (w'.cell? ad = some (.int .i64 (fewX x).kind) ∧ w'.cell? ⟨ad.block, ad.off + 1, none⟩ = some (.int .i64 (fewX x).n) ∧
  w'.cell? ⟨ad.block, ad.off + 2, none⟩ = some (.string (fewX x).s) ∧ w'.cell? ⟨ad.block, ad.off + 3, none⟩ = some (.int .i64 (fewX x).x0) ∧
  w'.cell? ⟨ad.block, ad.off + 4, none⟩ = some (.int .i64 (fewX x).y0) ∧ w'.cell? ⟨ad.block, ad.off + 5, none⟩ = some (.int .i64 (fewX x).x1) ∧
  w'.cell? ⟨ad.block, ad.off + 6, none⟩ = some (.int .i64 (fewX x).y1) ∧ w'.cell? ⟨ad.block, ad.off + 7, none⟩ = some (.slice Ab (fewX x).b.length m)) ∧ ((fewX x).b.length ≤ m ∧ ReadsInt w' .u8 Ab (fewX x).b.length (fewX x).b) ∧ Below w.heap.size w w'
theorem few_one (x : V8) (A : Option Addr) (m : Nat) (W : World) (hx : x.Bd) (hr : VH.reads W ⟨x, A, m⟩) : Calls Try.prog 14 #[.slice (some ⟨W.heap.size, 0, none⟩) 1 1] (W.alloc (.cells (VH.mk x A m).cells.toArray 41)) (FewP (W.alloc (.cells (VH.mk x A m).cells.toArray 41)) x) := by
  have hrow : VRow (W.alloc (.cells (VH.mk x A m).cells.toArray 41)) (some ⟨W.heap.size, 0, none⟩) [x] := by
    intro i hi
    obtain rfl : i = 0 := by simpa using hi
    refine ⟨_, A, m, rfl, ?_, ?_, ?_, ?_, ?_, ?_, ?_, ?_, hr.1, hr.2.below (Below.alloc (Below.refl _ _) (Nat.le_refl _) _)⟩
    all_goals (rw [add_p, World.cell?_alloc_new]; rfl)
  refine (law_few (some ⟨W.heap.size, 0, none⟩) [x] 1 _ (Nat.le_refl _) (by simp) hrow ?_).mono ?_
  · intro i hi
    obtain rfl : i = 0 := by simpa using hi
    exact ⟨hx.s, hx.b⟩
  · rintro e w' ⟨v, rfl, ho, hb⟩
    rw [few1] at ho
    obtain ⟨A', c, rfl, hc, hrow'⟩ := ho.row hb
    obtain ⟨ad, Ab, m', rfl, h0, h1, h2, h3, h4, h5, h6, h7, h8, h9⟩ := hrow' 0 (by simp)
    simp only [Nat.zero_mul] at h0 h1 h2 h3 h4 h5 h6 h7
    have hz : ad.add 0 = ad := by
      unfold Addr.add
      split <;> simp_all
    rw [hz] at h0 h1 h2 h3 h4 h5 h6 h7
    exact ⟨ad, Ab, m', c, rfl, ⟨h0, h1, h2, h3, h4, h5, h6, h7⟩, ⟨h8, h9⟩, hb⟩
set_option maxHeartbeats 1000000 in
theorem walk_ArgsTypes (x : V8) (A : Option Addr) (m : Nat) (w : World) (hx : x.Bd) (hr : VH.reads w ⟨x, A, m⟩) : Calls Try.prog 5 #[(.agg #[.int .i64 (x.kind), .int .i64 (x.n), .string (x.s), .int .i64 (x.x0), .int .i64 (x.y0), .int .i64 (x.x1), .int .i64 (x.y1), .slice (A) (x.b.length) (m)])] w fun e w' => e = .returned (.bool true) ∧ Below w.heap.size w w' := by
  have hw1 : VH.reads (w.alloc (.cells (VH.mk x A m).cells.toArray 41)) ⟨x, A, m⟩ := ⟨hr.1, hr.2.below (Below.alloc (Below.refl _ _) (Nat.le_refl _) _)⟩
  have hf := few_one x A m _ hx hw1
  have hb300 := fewX_b x
  clear hw1 hr
  simp only [VH.cells, World.size_alloc] at hf
  go_enter Try.func5, Try.ntmps5
  go_wp2_with (first | (go_at_call 14; (with_reducible refine hf.mono ?_); rintro e w1 ⟨ad, Ab, m1, c1, rfl, ⟨h0, h1, h2, h3, h4, h5, h6, h7⟩, hrd, hb1⟩; have hz1 := hb1.size; simp only [World.size_alloc] at hz1))
  obtain ⟨wf, rfl⟩ : ∃ wf, wf = w1 := ⟨_, rfl⟩
  have hb300' : (fewX x).b.length ≤ 1000000 := by omega
  generalize fewX x = y at *
  have k0 := isK_eq y 0; have k1 := isK_eq y 1; have k2 := isK_eq y 2; have k3 := isK_eq y 3
  have HRD := Lib.hid hrd
  clear hrd h0 h1 h2 h3 h4 h5 h6 h7 hf
  go_wp2_with (first | (go_at_call 24; (with_reducible refine (law_as y Ab m1 _ wf HRD.out.1 HRD.out.2).mono ?_); rintro e w2 ⟨u, rfl, hu, rfl⟩))
  have HU := fun (w2 : World) (h : Below wf.heap.size wf w2) => hu.below h
  obtain ⟨ut, uy, rfl⟩ := hu.iface
  clear hu
  have HUU := Lib.hid HU
  clear HU
  go_wp2_with (first | (go_at_call 25; (with_reducible refine (args_Int y _ _ (HUU.out _ ?_)).mono ?_); (focus ((repeat (first | (with_reducible exact Below.refl _ _) | ((with_reducible refine Below.alloc ?_ ?hB _); (case hB => (first | omega | (simp; done) | (simp; omega)))) | ((with_reducible refine Below.setCell ?_ ?hB _); (case hB => (first | omega | (simp; done) | (simp; omega)))) | (with_reducible refine Below.drew ?_) | ((with_reducible refine below_ext_of ?_ ?hB); (case hB => (first | omega | (simp; done) | (simp; omega)))) | ((with_reducible refine Below.trans ?_ (Below.mono (by assumption) ?hB)); (case hB => (first | omega | (simp; done) | (simp; omega)))))); done)); rintro e w2 ⟨rfl, rfl⟩) | (go_at_call 26; (with_reducible refine (args_Text y _ _ (HUU.out _ ?_)).mono ?_); (focus ((repeat (first | (with_reducible exact Below.refl _ _) | ((with_reducible refine Below.alloc ?_ ?hB _); (case hB => (first | omega | (simp; done) | (simp; omega)))) | ((with_reducible refine Below.setCell ?_ ?hB _); (case hB => (first | omega | (simp; done) | (simp; omega)))) | (with_reducible refine Below.drew ?_) | ((with_reducible refine below_ext_of ?_ ?hB); (case hB => (first | omega | (simp; done) | (simp; omega)))) | ((with_reducible refine Below.trans ?_ (Below.mono (by assumption) ?hB)); (case hB => (first | omega | (simp; done) | (simp; omega)))))); done)); rintro e w2 ⟨rfl, rfl⟩) | (go_at_call 27; (with_reducible refine (args_Rect y _ _ (HUU.out _ ?_)).mono ?_); (focus ((repeat (first | (with_reducible exact Below.refl _ _) | ((with_reducible refine Below.alloc ?_ ?hB _); (case hB => (first | omega | (simp; done) | (simp; omega)))) | ((with_reducible refine Below.setCell ?_ ?hB _); (case hB => (first | omega | (simp; done) | (simp; omega)))) | (with_reducible refine Below.drew ?_) | ((with_reducible refine below_ext_of ?_ ?hB); (case hB => (first | omega | (simp; done) | (simp; omega)))) | ((with_reducible refine Below.trans ?_ (Below.mono (by assumption) ?hB)); (case hB => (first | omega | (simp; done) | (simp; omega)))))); done)); rintro e w2 ⟨rfl, hb2⟩; obtain ⟨hc2, hf2⟩ := bcell hb2; have hz2 := hb2.size; (try simp only [World.size_alloc, World.size_setCell, World.size_drew] at hz2)) | (go_at_call 28; (with_reducible refine (args_Bytes y _ _ hb300' (HUU.out _ ?_)).mono ?_); (focus ((repeat (first | (with_reducible exact Below.refl _ _) | ((with_reducible refine Below.alloc ?_ ?hB _); (case hB => (first | omega | (simp; done) | (simp; omega)))) | ((with_reducible refine Below.setCell ?_ ?hB _); (case hB => (first | omega | (simp; done) | (simp; omega)))) | (with_reducible refine Below.drew ?_) | ((with_reducible refine below_ext_of ?_ ?hB); (case hB => (first | omega | (simp; done) | (simp; omega)))) | ((with_reducible refine Below.trans ?_ (Below.mono (by assumption) ?hB)); (case hB => (first | omega | (simp; done) | (simp; omega)))))); done)); rintro e w3 ⟨v3, rfl, _, hb3⟩; obtain ⟨hc3, hf3⟩ := bcell hb3; have hz3 := hb3.size; (try simp only [World.size_alloc, World.size_setCell, World.size_drew] at hz3)) | (go_at_call 22; (with_reducible refine (args_lives _).mono ?_); rintro e w1 ⟨rfl, hb1⟩; obtain ⟨hc1, hf1⟩ := bcell hb1; have hz1 := hb1.size; (try simp only [World.size_alloc, World.size_setCell, World.size_drew] at hz1)))
  (go_ret; refine ⟨?_, by (repeat (first | (with_reducible exact Below.refl _ _) | ((with_reducible refine Below.alloc ?_ ?hB _); (case hB => (first | omega | (simp; done) | (simp; omega)))) | ((with_reducible refine Below.setCell ?_ ?hB _); (case hB => (first | omega | (simp; done) | (simp; omega)))) | (with_reducible refine Below.drew ?_) | ((with_reducible refine below_ext_of ?_ ?hB); (case hB => (first | omega | (simp; done) | (simp; omega)))) | ((with_reducible refine Below.trans ?_ (Below.mono (by assumption) ?hB)); (case hB => (first | omega | (simp; done) | (simp; omega))))))⟩); rfl
end Go.Proofs.Yteldbnelfeiifaa
