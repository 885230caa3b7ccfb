/- The document's example of layer 9, walked. -/
import Derived.Test.YtinnaiofgbjicaaDoorReqB
import Derived.Test.YtinnaiofgbjicaaDoorArgV
import Derived.Test.YtinnaiofgbjicaaDoorFrA
namespace Go.Proofs.YtinnaiofgbjicaaDoor
open Go.RowKit Go.Proofs.YtinnaiofgbjicaaDoorW.PrintWords
set_option linter.unusedSimpArgs false
set_option linter.unusedVariables false
set_option maxRecDepth 1000000
def TRQ : TypeId := 36
set_option maxHeartbeats 2000000 in
theorem between_one (w : World) (g : Nat) (h : w.cell? ⟨g, 0, none⟩ = some (.int .i64 9)) (hg : g < w.heap.size) : Calls Tryd.prog 68 #[.int .i64 0, .int .i64 255, .slice (some ⟨g, 0, none⟩) 1 1] w fun e w' => e = .returned (.bool true) ∧ Below w.heap.size w w' := by
  go_enter Tryd.func68, Tryd.ntmps68
  go_wp2
  refine wp_loop_rounds 3 ?_
  iterate 2 (rw [rounds_succ]; go_wp2)
  go_ret
  exact ⟨rfl, by (repeat (first | (with_reducible exact Below.refl _ _) | ((with_reducible refine Below.alloc ?_ ?hB _); (case hB => (first | omega | (simp; done) | (simp; omega)))) | ((with_reducible refine Below.setCell ?_ ?hB _); (case hB => (first | omega | (simp; done) | (simp; omega)))) | (with_reducible refine Below.drew ?_) | ((with_reducible refine below_ext_of ?_ ?hB); (case hB => (first | omega | (simp; done) | (simp; omega)))) | ((with_reducible refine Below.trans ?_ (Below.mono (by assumption) ?hB)); (case hB => (first | omega | (simp; done) | (simp; omega))))))⟩
set_option maxHeartbeats 2000000 in
theorem fill_one (n : Int) (g : Nat) (w : World) (A : Option Addr) (c : Nat) (op id : Int) (hB : w.heap[g]? = some (.cells #[.int .i64 op, .int .i64 id, .int .i64 0, .int .i64 0, .int .i64 0, .int .i64 0, .int .i64 0, .int .i64 0, .string { data := #[] }, .slice none 0 0] 36 (0, 0))) (hr : AnyRow w A [vI n]) : Calls Tryd.prog 43 #[.pointer (some ⟨g, 0, none⟩), .slice A 1 c] w fun e w' => e = .returned (.tuple #[]) ∧ w' = w.setCell ⟨g, 2, none⟩ (.int .i64 n) := by
  obtain ⟨ad, u, rfl, f0, hx⟩ := hr 0 (by simp)
  have f0 : w.cell? ad = some u := f0
  have q2 : w.cell? ⟨g, 2, none⟩ = some (.int .i64 0) := (blk_cell hB 2).trans rfl
  have qf := blk_frozen hB 2
  have hgl := heap_lt hB
  have hx' : u = .iface 3 (.int .i64 n) := by
    cases hx with
    | int h => rfl
    | str h => exact absurd h (by show ¬ (0 : Int) = 1; omega)
    | rect h => exact absurd h (by show ¬ (0 : Int) = 2; omega)
    | byt h A m hm hr1 => exact absurd h (by show ¬ (0 : Int) = 3; omega)
    | oth h => exact absurd rfl h.1
  subst hx'
  clear hx hr hB
  go_enter Tryd.func43, Tryd.ntmps43
  go_wp2
  refine wp_loop_rounds 3 ?_
  iterate 2 (rw [rounds_succ]; go_wp2)
  refine bodyPost_end (v := .tuple #[]) (by simp [results, Tryd.results43, go_sem]) rfl ⟨rfl, rfl⟩
set_option maxHeartbeats 2000000 in
theorem may_fade (w : World) : Calls Tryd.prog 76 #[(.agg #[.int .i64 13, .int .i64 5, .int .i64 9, .int .i64 0, .int .i64 0, .int .i64 0, .int .i64 0, .int .i64 0, .string { data := #[] }, .slice none 0 0])] w fun e w' => e = .returned (.bool true) ∧ Below w.heap.size w w' := by
  have cb := between_one
  go_enter Tryd.func76, Tryd.ntmps76
  go_wp2_with (first | (go_at_call 68; (with_reducible refine (cb _ _ ?_ ?_).mono ?_); (focus (go_simp; done)); (focus (simp; done)); rintro en w1 ⟨rfl, hb1⟩; have hz1 := hb1.size; (try simp only [World.size_alloc, World.size_setCell, World.size_drew] at hz1)))
  go_ret
  exact ⟨rfl, by (repeat (first | (with_reducible exact Below.refl _ _) | ((with_reducible refine Below.alloc ?_ ?hB _); (case hB => (first | omega | (simp; done) | (simp; omega)))) | ((with_reducible refine Below.setCell ?_ ?hB _); (case hB => (first | omega | (simp; done) | (simp; omega)))) | (with_reducible refine Below.drew ?_) | ((with_reducible refine below_ext_of ?_ ?hB); (case hB => (first | omega | (simp; done) | (simp; omega)))) | ((with_reducible refine Below.trans ?_ (Below.mono (by assumption) ?hB)); (case hB => (first | omega | (simp; done) | (simp; omega))))))⟩
def DecP (w : World) (e : Ending) (w' : World) : Prop := e = .returned (.tuple #[(.agg #[.int .i64 13, .int .i64 5, .int .i64 9, .int .i64 0, .int .i64 0, .int .i64 0, .int .i64 0, .int .i64 0, .string { data := #[] }, .slice none 0 0]), .int .i64 0]) ∧ Below w.heap.size w w'
theorem unp_fade : unpackP (formQ 13) [0, 0, 0, 9] = (0, [vI 9]) := by kernel_rfl
set_option maxHeartbeats 4000000 in
theorem decode_fade (w : World) (hs : BS w (some ⟨w.heap.size - 1, 0, none⟩) [0, 0, 0, 9] 4) : Calls Tryd.prog 15 #[.agg #[.int .i64 13, .int .i64 5, .slice (some ⟨w.heap.size - 1, 0, none⟩) 4 4]] w (DecP w) := by
  have cF : ∀ w, Calls Tryd.prog 19 #[.int .i64 13] w (fun e w' => e = .returned (.tuple #[.string (formQ 13), .bool true]) ∧ Below w.heap.size w w') := fun w => req_FormY 13 w (by omega)
  have cU : ∀ w1, Below w.heap.size w w1 → Calls Tryd.prog 42 #[.string (formQ 13), .slice (some ⟨w.heap.size - 1, 0, none⟩) 4 4] w1 (fun e w' => ∃ A c, e = .returned (.tuple #[.slice A 1 c, .int .i64 0]) ∧ 1 ≤ c ∧ AnyRow w' A [vI 9] ∧ Below w1.heap.size w1 w') := fun w1 hb => by
    have := args_Unpack (formQ 13) (some ⟨w.heap.size - 1, 0, none⟩) [0, 0, 0, 9] 4 w1 (by decide +kernel) hs.byt (by simp) hs.le hs.nil (hs.rd.below hb)
    unfold UnpP at this
    rw [unp_fade] at this
    exact this
  obtain ⟨f, hf⟩ : ∃ f, formQ 13 = f := ⟨_, rfl⟩
  rw [hf] at cF cU
  clear hf hs
  generalize w.heap.size - 1 = g0 at *
  have cm : ∀ w, Calls Tryd.prog 44 #[.agg #[.int .i64 0, .int .i64 5, .slice none 0 0]] w fun e w' => e = .returned (.bool true) ∧ Below w.heap.size w w' := fun w => frame_May 0 5 none 0 0 w (by omega)
  have cK := req_kinds
  have c7 := may_fade
  have hKi : ∀ W, (Instr.index 95 (.agg kindsA) (.int .i64 13)).run Tryd.prog W = .ok (.agg #[.string (nameQ 13), .string (formQ 13), .func (.func 76) #[] #[]]) W := kinds_at 13 (by omega)
  have hf2 := field_may
  generalize nameQ 13 = nm at *
  generalize formQ 13 = fm at *
  generalize kindsA = K at *
  go_enter Tryd.func15, Tryd.ntmps15
  go_wp2_with (first | (go_at_call 19; (with_reducible refine (cF _).mono ?_); rintro en w1 ⟨rfl, hb1⟩; obtain ⟨hc1, hf1⟩ := bcell hb1; have hz1 := hb1.size; (try simp only [World.size_alloc, World.size_setCell, World.size_drew] at hz1)) | (go_at_call 42; (with_reducible refine (cU _ ?_).mono ?_); (focus ((repeat (first | (with_reducible exact Below.refl _ _) | ((with_reducible refine Below.alloc ?_ ?hB _); (case hB => (first | omega | (simp; done) | (simp; omega)))) | ((with_reducible refine Below.setCell ?_ ?hB _); (case hB => (first | omega | (simp; done) | (simp; omega)))) | (with_reducible refine Below.drew ?_) | ((with_reducible refine below_ext_of ?_ ?hB); (case hB => (first | omega | (simp; done) | (simp; omega)))) | ((with_reducible refine Below.trans ?_ (Below.mono (by assumption) ?hB)); (case hB => (first | omega | (simp; done) | (simp; omega)))))); done)); rintro en w2 ⟨A2, c2, rfl, hl2, hr2, hb2⟩; obtain ⟨hc2, hf2⟩ := bcell hb2; have hz2 := hb2.size; replace hr2 := Lib.hid hr2; (try simp only [World.size_alloc, World.size_setCell, World.size_drew] at hz2)) | (go_at_call 43; (with_reducible refine (fill_one 9 _ _ _ _ 13 5 (blk_new _ _) (hr2.out.below ?_)).mono ?_); (focus ((repeat (first | (with_reducible exact Below.refl _ _) | ((with_reducible refine Below.alloc ?_ ?hB _); (case hB => (first | omega | (simp; done) | (simp; omega)))) | ((with_reducible refine Below.setCell ?_ ?hB _); (case hB => (first | omega | (simp; done) | (simp; omega)))) | (with_reducible refine Below.drew ?_) | ((with_reducible refine below_ext_of ?_ ?hB); (case hB => (first | omega | (simp; done) | (simp; omega)))) | ((with_reducible refine Below.trans ?_ (Below.mono (by assumption) ?hB)); (case hB => (first | omega | (simp; done) | (simp; omega)))))); done)); rintro en W ⟨rfl, rfl⟩))
  (refine wp_region_ext_lit (by kernel_rfl) (by kernel_rfl) ?_; (repeat (go_big_quiet_step ((first | (go_at_call 44; with_reducible exact ext_call (cm _)) | (go_at_call 45; with_reducible exact ext_call (cK _)) | (go_at_call 76; with_reducible exact ext_call (c7 _)))))); refine wpQuiet_nil ?_; intro w3 hb_w3; obtain ⟨hc_w3, hf_w3⟩ := bcell hb_w3; have hz_w3 := hb_w3.size; (try simp only [World.size_alloc, World.size_setCell, World.size_drew] at hz_w3))
  go_wp2
  refine bodyPost_ret (v := .tuple #[(.agg #[.int .i64 13, .int .i64 5, .int .i64 9, .int .i64 0, .int .i64 0, .int .i64 0, .int .i64 0, .int .i64 0, .string { data := #[] }, .slice none 0 0]), .int .i64 0]) (by simp [results, Tryd.results15, go_sem, ↓IntWalk.iteOmega, *]) rfl ?_
  exact ⟨rfl, by (repeat (first | (with_reducible exact Below.refl _ _) | ((with_reducible refine Below.alloc ?_ ?hB _); (case hB => (first | omega | (simp; done) | (simp; omega)))) | ((with_reducible refine Below.setCell ?_ ?hB _); (case hB => (first | omega | (simp; done) | (simp; omega)))) | (with_reducible refine Below.drew ?_) | ((with_reducible refine below_ext_of ?_ ?hB); (case hB => (first | omega | (simp; done) | (simp; omega)))) | ((with_reducible refine Below.trans ?_ (Below.mono (by assumption) ?hB)); (case hB => (first | omega | (simp; done) | (simp; omega))))))⟩
set_option maxHeartbeats 2000000 in
theorem lives09 (w : World) : Calls Tryd.prog 18 #[] w fun e w' => e = .returned (.bool true) ∧ Below w.heap.size w w' := by
  have cD : ∀ (W : World) (n : Nat), W.heap.size = n → Calls Tryd.prog 15 #[.agg #[.int .i64 13, .int .i64 5, .slice (some ⟨n, 0, none⟩) 4 4]] (W.alloc (.cells #[.int .u8 0, .int .u8 0, .int .u8 0, .int .u8 9] 5)) (DecP (W.alloc (.cells #[.int .u8 0, .int .u8 0, .int .u8 0, .int .u8 9] 5))) := fun W n hn => by
    subst hn
    have hs : BS (W.alloc (.cells #[.int .u8 0, .int .u8 0, .int .u8 0, .int .u8 9] 5)) (some ⟨W.heap.size, 0, none⟩) [0, 0, 0, 9] 4 := ⟨by simp, (fun e => by cases e), by omega, reads_lit W [0, 0, 0, 9] (by simp), (fun n hn => by simp at hn; omega)⟩
    have := decode_fade (W.alloc (.cells #[.int .u8 0, .int .u8 0, .int .u8 0, .int .u8 9] 5)) (by simpa using hs)
    simpa using this
  unfold DecP at cD
  go_enter Tryd.func18, Tryd.ntmps18
  go_wp2_with (first | (go_at_call 15; (with_reducible refine (cD _ _ ?_).mono ?_); (focus (first | rfl | (simp; done))); rintro en w1 ⟨rfl, hb1⟩; have hz1 := hb1.size; (try simp only [World.size_alloc, World.size_setCell, World.size_drew] at hz1)))
  go_ret
  exact ⟨rfl, by (repeat (first | (with_reducible exact Below.refl _ _) | ((with_reducible refine Below.alloc ?_ ?hB _); (case hB => (first | omega | (simp; done) | (simp; omega)))) | ((with_reducible refine Below.setCell ?_ ?hB _); (case hB => (first | omega | (simp; done) | (simp; omega)))) | (with_reducible refine Below.drew ?_) | ((with_reducible refine below_ext_of ?_ ?hB); (case hB => (first | omega | (simp; done) | (simp; omega)))) | ((with_reducible refine Below.trans ?_ (Below.mono (by assumption) ?hB)); (case hB => (first | omega | (simp; done) | (simp; omega))))))⟩
end Go.Proofs.YtinnaiofgbjicaaDoor
