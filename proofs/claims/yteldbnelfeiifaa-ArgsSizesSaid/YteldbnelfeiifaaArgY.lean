/- An argument of the program is told to be the document's: walked. -/
import Derived.Test.YteldbnelfeiifaaArgX
import Derived.Test.YteldbnelfeiifaaArgO
import Derived.Test.YteldbnelfeiifaaArgTypes
namespace Go.Proofs.Yteldbnelfeiifaa
open Go.RowKit Go.Proofs.YteldbnelfeiifaaW.PrintWords
set_option linter.unusedSimpArgs false
set_option linter.unusedVariables false
set_option maxRecDepth 1000000
/-- What an argument of another kind would have is not there. -/
structure Canon (x : V8) : Prop where
  k0 : ¬ x.kind = 0 → x.n = 0
  k1 : ¬ x.kind = 1 → x.s = ⟨#[]⟩
  k2 : ¬ x.kind = 2 → x.x0 = 0 ∧ x.y0 = 0 ∧ x.x1 = 0 ∧ x.y1 = 0
  k3 : ¬ x.kind = 3 → x.b = []
theorem Canon.int {x : V8} (h : Canon x) : anyInt x = x.n := by unfold anyInt; split; rfl; exact (h.k0 ‹_›).symm
theorem Canon.str {x : V8} (h : Canon x) : anyStr x = x.s := by unfold anyStr; split; rfl; exact (h.k1 ‹_›).symm
theorem Canon.rect {x : V8} (h : Canon x) : anyX x x.x0 = x.x0 ∧ anyX x x.y0 = x.y0 ∧ anyX x x.x1 = x.x1 ∧ anyX x x.y1 = x.y1 := by
  unfold anyX; split
  · exact ⟨rfl, rfl, rfl, rfl⟩
  · have := h.k2 ‹_›; omega
theorem Canon.byt {x : V8} (h : Canon x) : anyB x = x.b := by unfold anyB; split; rfl; exact (h.k3 ‹_›).symm
theorem Canon.zero : Canon v0 := ⟨fun h => rfl, fun _ => rfl, fun _ => ⟨rfl, rfl, rfl, rfl⟩, fun _ => rfl⟩
set_option maxHeartbeats 1000000 in
theorem law_like (x : V8) (v : Value) (A : Option Addr) (m : Nat) (w : World) (hx : Canon x) (hb : x.b.length ≤ 1000000) (ha : AnyR w x v) (hr : ReadsInt w .u8 A x.b.length x.b) : Calls Try.prog 52 #[v, (.agg #[.int .i64 (x.kind), .int .i64 (x.n), .string (x.s), .int .i64 (x.x0), .int .i64 (x.y0), .int .i64 (x.x1), .int .i64 (x.y1), .slice (A) (x.b.length) (m)])] w fun e w' => e = .returned (.bool true) ∧ Below w.heap.size w w' := by
  have k0 := isK_eq x 0; have k1 := isK_eq x 1; have k2 := isK_eq x 2; have k3 := isK_eq x 3
  have ci := fun w (h : AnyR w x v) => args_Int x v w h
  have cs := fun w (h : AnyR w x v) => args_Text x v w h
  have cr := fun w (h : AnyR w x v) => args_Rect x v w h
  have cb := fun w (h : AnyR w x v) => args_Bytes x v w hb h
  unfold RectP at cr
  unfold BytesP at cb
  rw [hx.rect.1, hx.rect.2.1, hx.rect.2.2.1, hx.rect.2.2.2] at cr
  rw [hx.int] at ci
  rw [hx.str] at cs
  rw [hx.byt] at cb
  have HA := Lib.hid ha
  have HR := Lib.hid hr
  clear hx ha hr
  go_enter Try.func52, Try.ntmps52
  go_wp2_with (first | (go_at_call 25; (with_reducible refine (ci _ (HA.out.below ?_)).mono ?_); (focus ((repeat (first | (with_reducible exact Below.refl _ _) | ((with_reducible refine Below.alloc ?_ ?hB _); (case hB => (first | omega | (simp; done) | (simp; omega)))) | ((with_reducible refine Below.setCell ?_ ?hB _); (case hB => (first | omega | (simp; done) | (simp; omega)))) | (with_reducible refine Below.drew ?_) | ((with_reducible refine below_ext_of ?_ ?hB); (case hB => (first | omega | (simp; done) | (simp; omega)))) | ((with_reducible refine Below.trans ?_ (Below.mono (by assumption) ?hB)); (case hB => (first | omega | (simp; done) | (simp; omega)))))); done)); rintro e w1 ⟨rfl, rfl⟩) | (go_at_call 26; (with_reducible refine (cs _ (HA.out.below ?_)).mono ?_); (focus ((repeat (first | (with_reducible exact Below.refl _ _) | ((with_reducible refine Below.alloc ?_ ?hB _); (case hB => (first | omega | (simp; done) | (simp; omega)))) | ((with_reducible refine Below.setCell ?_ ?hB _); (case hB => (first | omega | (simp; done) | (simp; omega)))) | (with_reducible refine Below.drew ?_) | ((with_reducible refine below_ext_of ?_ ?hB); (case hB => (first | omega | (simp; done) | (simp; omega)))) | ((with_reducible refine Below.trans ?_ (Below.mono (by assumption) ?hB)); (case hB => (first | omega | (simp; done) | (simp; omega)))))); done)); rintro e w1 ⟨rfl, rfl⟩) | (go_at_call 27; (with_reducible refine (cr _ (HA.out.below ?_)).mono ?_); (focus ((repeat (first | (with_reducible exact Below.refl _ _) | ((with_reducible refine Below.alloc ?_ ?hB _); (case hB => (first | omega | (simp; done) | (simp; omega)))) | ((with_reducible refine Below.setCell ?_ ?hB _); (case hB => (first | omega | (simp; done) | (simp; omega)))) | (with_reducible refine Below.drew ?_) | ((with_reducible refine below_ext_of ?_ ?hB); (case hB => (first | omega | (simp; done) | (simp; omega)))) | ((with_reducible refine Below.trans ?_ (Below.mono (by assumption) ?hB)); (case hB => (first | omega | (simp; done) | (simp; omega)))))); done)); rintro e w2 ⟨rfl, hb2⟩; obtain ⟨hc2, hf2⟩ := bcell hb2; have hz2 := hb2.size; (try simp only [World.size_alloc, World.size_setCell, World.size_drew] at hz2)) | (go_at_call 28; (with_reducible refine (cb _ (HA.out.below ?_)).mono ?_); (focus ((repeat (first | (with_reducible exact Below.refl _ _) | ((with_reducible refine Below.alloc ?_ ?hB _); (case hB => (first | omega | (simp; done) | (simp; omega)))) | ((with_reducible refine Below.setCell ?_ ?hB _); (case hB => (first | omega | (simp; done) | (simp; omega)))) | (with_reducible refine Below.drew ?_) | ((with_reducible refine below_ext_of ?_ ?hB); (case hB => (first | omega | (simp; done) | (simp; omega)))) | ((with_reducible refine Below.trans ?_ (Below.mono (by assumption) ?hB)); (case hB => (first | omega | (simp; done) | (simp; omega)))))); done)); rintro e w3 ⟨v3, rfl, ho3, hb3⟩; obtain ⟨A3, c3, rfl, hr3⟩ := own_reads ho3; clear ho3; replace hr3 := Lib.hid hr3; obtain ⟨hc3, hf3⟩ := bcell hb3; have hz3 := hb3.size; (try simp only [World.size_alloc, World.size_setCell, World.size_drew] at hz3)) | (go_at_call 23; (with_reducible refine (ref_SameYes x A3 A c3 m _ (hr3.out.below ?_) (HR.out.below ?_)).mono ?_); (focus ((repeat (first | (with_reducible exact Below.refl _ _) | ((with_reducible refine Below.alloc ?_ ?hB _); (case hB => (first | omega | (simp; done) | (simp; omega)))) | ((with_reducible refine Below.setCell ?_ ?hB _); (case hB => (first | omega | (simp; done) | (simp; omega)))) | (with_reducible refine Below.drew ?_) | ((with_reducible refine below_ext_of ?_ ?hB); (case hB => (first | omega | (simp; done) | (simp; omega)))) | ((with_reducible refine Below.trans ?_ (Below.mono (by assumption) ?hB)); (case hB => (first | omega | (simp; done) | (simp; omega)))))); done)); (focus ((repeat (first | (with_reducible exact Below.refl _ _) | ((with_reducible refine Below.alloc ?_ ?hB _); (case hB => (first | omega | (simp; done) | (simp; omega)))) | ((with_reducible refine Below.setCell ?_ ?hB _); (case hB => (first | omega | (simp; done) | (simp; omega)))) | (with_reducible refine Below.drew ?_) | ((with_reducible refine below_ext_of ?_ ?hB); (case hB => (first | omega | (simp; done) | (simp; omega)))) | ((with_reducible refine Below.trans ?_ (Below.mono (by assumption) ?hB)); (case hB => (first | omega | (simp; done) | (simp; omega)))))); done)); rintro e w4 ⟨rfl, hb4⟩; have hz4 := hb4.size))
  go_ret
  exact ⟨rfl, by (repeat (first | (with_reducible exact Below.refl _ _) | ((with_reducible refine Below.alloc ?_ ?hB _); (case hB => (first | omega | (simp; done) | (simp; omega)))) | ((with_reducible refine Below.setCell ?_ ?hB _); (case hB => (first | omega | (simp; done) | (simp; omega)))) | (with_reducible refine Below.drew ?_) | ((with_reducible refine below_ext_of ?_ ?hB); (case hB => (first | omega | (simp; done) | (simp; omega)))) | ((with_reducible refine Below.trans ?_ (Below.mono (by assumption) ?hB)); (case hB => (first | omega | (simp; done) | (simp; omega))))))⟩
end Go.Proofs.Yteldbnelfeiifaa
