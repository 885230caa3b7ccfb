/- The document's example, walked. -/
import Derived.Test.YtbkhcdmmnlkhdaaGreatQuoA
namespace Go.Proofs.YtbkhcdmmnlkhdaaGreat
open Go.RowKit Go.Maps Go.Proofs.YtbkhcdmmnlkhdaaGreatW.PrintWords
set_option linter.unusedSimpArgs false
set_option linter.unusedVariables false
set_option maxRecDepth 1000000
def rq1 : Rq := ⟨3, 1, 0, 0, 0, 0, 0, 0, ⟨#[]⟩, none, 0, 0⟩
def rq2 : Rq := ⟨16, 1, 0, 0, 0, 0, 0, 0, ⟨#[]⟩, none, 0, 0⟩
theorem rq1_bd : RBd rq1 := ⟨by decide, by decide, by decide, by decide⟩
theorem rq2_bd : RBd rq2 := ⟨by decide, by decide, by decide, by decide⟩
theorem cs0_bd (t bm p pm sm : Nat) : CBd (cs0 t bm p pm sm) := ⟨by simp [cs0], by simp [cs0], by simp [cs0], by simp [cs0], by simp [cs0], by simp [cs0]⟩
theorem show_foot2 {s : CS} {c : Nat} {id : Int} {b sb B k : Nat} (h : (s.show id b sb).foot c k) (h1 : ∀ k, s.foot c k → B ≤ k) (hb : B ≤ b) (hs : B ≤ sb) : B ≤ k := by
  rcases show_foot h with h | h | h
  · exact h1 k h
  · omega
  · omega
theorem liv_do1 (c t bm p pm sm B : Nat) (w : World) (h : Cli w c (cs0 t bm p pm sm)) (hB : ∀ k, (cs0 t bm p pm sm).foot c k → B ≤ k) (hw : B ≤ w.heap.size) : Calls Tryz.prog 10 #[(.pointer (some ⟨c, 0, none⟩)), rq1.v] w fun e w' => e = .returned (.tuple #[.slice none 0 0, .slice none 0 0]) ∧ ∃ b sb, Cli w' c ((cs0 t bm p pm sm).show 1 b sb) ∧ (∀ k, ((cs0 t bm p pm sm).show 1 b sb).foot c k → B ≤ k) ∧ Below B w w' := by
  refine (do_surface c _ rq1 w h (cs0_bd _ _ _ _ _) rq1_bd rfl (fun _ h => by cases h)).mono fun e w' hp => ?_
  obtain ⟨hk, h1 | h1⟩ := hp
  · obtain ⟨_, rfl, b, sb, h2, h3, h4⟩ := h1
    refine ⟨rfl, b, sb, h2, fun k hf => show_foot2 hf hB (by omega) (by omega), ⟨hk.os, hk.tape, hk.output, hk.size, fun k hk' => hk.block k (by omega) (fun hf => by have := hB k hf; omega)⟩⟩
  · exact absurd (show addE [] 1 2 = 0 by decide) h1.1
theorem liv_do2 (c b sb t bm p pm sm B : Nat) (w : World) (h : Cli w c ((cs0 t bm p pm sm).show 1 b sb)) (hB : ∀ k, ((cs0 t bm p pm sm).show 1 b sb).foot c k → B ≤ k) (hw : B ≤ w.heap.size) : Calls Tryz.prog 10 #[(.pointer (some ⟨c, 0, none⟩)), rq2.v] w fun e w' => (∃ A2, e = .returned (.tuple #[.slice none 0 0, .slice A2 1 1]) ∧ EffN w' A2) ∧ Below B w w' := by
  refine (do_commitN c _ rq2 w h rq2_bd rfl (show findE [(1, 2)] 1 2 = 0 by decide) ⟨b, sb, -1, -1, 0, 0, sf0⟩ (by simp [CS.show, CS.put, cs0, rq2]) rfl rfl rfl rfl).mono fun e w' hp => ?_
  obtain ⟨A2, rfl, h2, hk⟩ := hp
  exact ⟨⟨A2, rfl, h2⟩, ⟨hk.os, hk.tape, hk.output, hk.size, fun k hk' => hk.block k (by omega) (fun hf => by have := hB k hf; omega)⟩⟩
theorem law_lives (w : World) : Calls Tryz.prog 15 #[] w fun e w' => e = .returned (.bool true) ∧ Below w.heap.size w w' := by
  have cN := cli_New
  unfold NewC at cN
  have c1 := liv_do1
  have c2 := liv_do2
  unfold rq1 Rq.v Rq.cells at c1
  unfold rq2 Rq.v Rq.cells at c2
  go_enter Tryz.func15, Tryz.ntmps15
  go_wp2_with (first
    | (go_at_call 8; (with_reducible refine (cN _).mono ?_); rintro e w1 ⟨c, t, bm, p, pm, sm, rfl, hc1, hf1, hb1⟩; have hz1 := hb1.size; replace hc1 := Lib.hid hc1; replace hf1 := Lib.hid hf1)
    | (go_at_call 10; (with_reducible refine (c1 c t bm p pm sm w.heap.size w1 hc1.out hf1.out hz1).mono ?_); rintro e w2 ⟨rfl, b, sb, hc2, hf2, hb2⟩; have hz2 := hb2.size; replace hc2 := Lib.hid hc2; replace hf2 := Lib.hid hf2)
    | (go_at_call 10; (with_reducible refine (c2 c b sb t bm p pm sm w.heap.size w2 hc2.out hf2.out (Nat.le_trans hz1 hz2)).mono ?_); rintro e w3 ⟨⟨A2, rfl, g, cs, rfl, hg, h0, h2, h15⟩, hb3⟩; have l0 := blk_cellO hg 0 _ h0; have l2 := blk_cellO hg 2 _ h2; have l15 := blk_cellO hg 15 _ h15; have hb03 : Below w.heap.size w w3 := (hb1.trans hb2).trans hb3))
  go_ret
  exact ⟨rfl, hb03⟩
end Go.Proofs.YtbkhcdmmnlkhdaaGreat
