/- Regions: of rectangles, of both, of what both have; at most so many; how many points, walked. -/
import Derived.Test.YtbkhcdmmnlkhdaaGreatRegH
namespace Go.Proofs.YtbkhcdmmnlkhdaaGreat
open Go.RowKit Go.Proofs.YtbkhcdmmnlkhdaaGreatW.PrintWords
set_option linter.unusedSimpArgs false
set_option linter.unusedVariables false
set_option maxRecDepth 1000000
def ofL (l : List R) : List R := mergeL (fun a _ => a) (fullL l) []
def unionL (a b : List R) : List R := mergeL (fun a b => a || b) a b
def cutL (a b : List R) : List R := mergeL (fun a b => a && b) a b
theorem keep_Of : KeepB 187 (fun a _ => a) := by
  intro W p q
  go_enter Tryz.func187, Tryz.ntmps187
  go_wp2
  go_ret
  exact ⟨rfl, rfl⟩
theorem keep_Union : KeepB 190 (fun a b => a || b) := by
  intro W p q
  cases p
  · go_enter Tryz.func190, Tryz.ntmps190
    go_wp2
    go_ret
    exact ⟨by simp, rfl⟩
  · go_enter Tryz.func190, Tryz.ntmps190
    go_wp2
    go_ret
    exact ⟨rfl, rfl⟩
theorem keep_Cut : KeepB 205 (fun a b => a && b) := by
  intro W p q
  cases p
  · go_enter Tryz.func205, Tryz.ntmps205
    go_wp2
    go_ret
    exact ⟨rfl, rfl⟩
  · go_enter Tryz.func205, Tryz.ntmps205
    go_wp2
    go_ret
    exact ⟨by simp, rfl⟩
theorem reg_Of (A : Option Addr) (l : List R) (c : Nat) (w : World) (hl : l.length ≤ 1000000) (hr : RdG RE w A l c) : Calls Tryz.prog 140 #[.slice A l.length c] w (RowP RE 26 w (ofL l)) := by
  have cC := sl_Clone A l c w (by omega) hr
  have hfl := fullL_len l
  have cM : ∀ A1 c1 W, RdG RE W A1 (fullL l) c1 → Calls Tryz.prog 186 #[.slice A1 (fullL l).length c1, .slice none 0 0, .func (.func 187) #[] #[]] W (RowP RE 26 W (mergeL (fun a _ => a) (fullL l) [])) := fun A1 c1 W h => reg_merge 187 (enters_of Tryz.func187 (by kernel_rfl) rfl) (fun a _ => a) keep_Of A1 none (fullL l) [] c1 0 W (by simp; omega) h (RdG.nil0 _)
  unfold ofL
  generalize mergeL (fun a _ => a) (fullL l) [] = m at *
  generalize hfe : fullL l = f at *
  replace hfe := Lib.hid hfe
  clear hr
  go_enter Tryz.func140, Tryz.ntmps140
  go_wp2_with (first
    | (go_at_call 184; (with_reducible refine cC.mono ?_); rintro e w1 ⟨v1, rfl, ho1, hb1⟩; obtain ⟨A1, c1, rfl, -, -⟩ := ho1.rd; have hz1 := hb1.size; have cD := sl_DeleteFunc w.heap.size A1 l c1 w1 (by omega) hz1 ho1; rw [hfe.out] at cD)
    | (go_at_call 183; (with_reducible refine cD.mono ?_); rintro e w2 ⟨v2, rfl, ho2, hb2⟩; obtain ⟨A2, c2, rfl, hr2, -⟩ := ho2.rd; have hz2 := hb2.size)
    | (go_at_call 186; (with_reducible refine (cM _ _ _ hr2).mono ?_); rintro e w3 ⟨v3, rfl, ho3, hb3⟩; have hz3 := hb3.size))
  go_ret
  exact ⟨_, rfl, ho3.mono (by omega), (hb1.trans (hb2.mono (by omega))).trans (hb3.mono (by omega))⟩
theorem reg_Union (A B : Option Addr) (a b : List R) (ca cb : Nat) (w : World) (hl : a.length + b.length ≤ 1000000) (ha : RdG RE w A a ca) (hb : RdG RE w B b cb) : Calls Tryz.prog 144 #[.slice A a.length ca, .slice B b.length cb] w (RowP RE 26 w (unionL a b)) := by
  have cM := reg_merge 190 (enters_of Tryz.func190 (by kernel_rfl) rfl) (fun a b => a || b) keep_Union A B a b ca cb w hl ha hb
  unfold unionL
  generalize mergeL (fun a b => a || b) a b = m at *
  clear ha hb
  go_enter Tryz.func144, Tryz.ntmps144
  go_wp2_with (first | (go_at_call 186; (with_reducible refine cM.mono ?_); rintro e w3 ⟨v3, rfl, ho3, hb3⟩))
  go_ret
  exact ⟨_, rfl, ho3, hb3⟩
theorem reg_Cut (A B : Option Addr) (a b : List R) (ca cb : Nat) (w : World) (hl : a.length + b.length ≤ 1000000) (ha : RdG RE w A a ca) (hb : RdG RE w B b cb) : Calls Tryz.prog 177 #[.slice A a.length ca, .slice B b.length cb] w (RowP RE 26 w (cutL a b)) := by
  have cM := reg_merge 205 (enters_of Tryz.func205 (by kernel_rfl) rfl) (fun a b => a && b) keep_Cut A B a b ca cb w hl ha hb
  unfold cutL
  generalize mergeL (fun a b => a && b) a b = m at *
  clear ha hb
  go_enter Tryz.func177, Tryz.ntmps177
  go_wp2_with (first | (go_at_call 186; (with_reducible refine cM.mono ?_); rintro e w3 ⟨v3, rfl, ho3, hb3⟩))
  go_ret
  exact ⟨_, rfl, ho3, hb3⟩
/-- The least rectangle round all. -/
def hullL (l : List R) : R := hullF (atR l) l.length
theorem reg_Hull (A : Option Addr) (l : List R) (c : Nat) (w : World) (hl : l.length ≤ 1000000000000) (hr : RdG RE w A l c) : Calls Tryz.prog 189 #[.slice A l.length c] w fun e w' => e = .returned ((.agg #[.int .i64 (hullL l).x0, .int .i64 (hullL l).y0, .int .i64 (hullL l).x1, .int .i64 (hullL l).y1])) ∧ Below w.heap.size w w' := by
  by_cases h0 : l = []
  · subst h0
    exact rect_HullNil A c w
  · obtain ⟨b, off, rfl, hb, hrow⟩ := RdR.at hr (List.length_pos_iff.2 h0)
    exact rect_Hull b off l.length c (atR l) w hl hrow hb
def keepL (l : List R) (n : Nat) : List R := if l.length ≤ n then l else if n < 1 then [] else [hullL l]
theorem reg_Keep (A : Option Addr) (l : List R) (c n : Nat) (w : World) (hl : l.length ≤ 1000000000000) (hn : n ≤ 1000000) (hr : RdG RE w A l c) : Calls Tryz.prog 143 #[.slice A l.length c, .int .i64 n] w (RowP RE 26 w (keepL l n)) := by
  have cC := sl_Clone A l c w hl hr
  have cH := reg_Hull A l c w hl hr
  unfold keepL
  clear hr
  by_cases h1 : l.length ≤ n
  · rw [if_pos h1]
    have j1 : (l.length : Int) ≤ n := by omega
    go_enter Tryz.func143, Tryz.ntmps143
    go_wp2_with (first | (go_at_call 184; (with_reducible refine cC.mono ?_); rintro e w1 ⟨v1, rfl, ho1, hb1⟩))
    go_ret
    exact ⟨_, rfl, ho1, hb1⟩
  · rw [if_neg h1]
    have j1 : ¬ (l.length : Int) ≤ n := by omega
    by_cases h2 : n < 1
    · rw [if_pos h2]
      have j2 : (n : Int) < 1 := by omega
      go_enter Tryz.func143, Tryz.ntmps143
      go_wp2_with fail
      go_ret
      exact ⟨_, rfl, OwnG.nil _ _ _, Below.refl _ _⟩
    · rw [if_neg h2]
      have j2 : ¬ (n : Int) < 1 := by omega
      generalize hullL l = r at *
      go_enter Tryz.func143, Tryz.ntmps143
      go_wp2_with (first | (go_at_call 189; (with_reducible refine cH.mono ?_); rintro e w1 ⟨rfl, hb1⟩; have hz1 := hb1.size))
      go_ret
      refine ⟨_, rfl, ?_, by (repeat (first | (with_reducible exact Below.refl _ _) | ((with_reducible refine Below.alloc ?_ ?hB _); (case hB => (first | omega | (simp; done) | (simp; omega)))) | ((with_reducible refine Below.setCell ?_ ?hB _); (case hB => (first | omega | (simp; done) | (simp; omega)))) | (with_reducible refine Below.drew ?_) | ((with_reducible refine below_ext_of ?_ ?hB); (case hB => (first | omega | (simp; done) | (simp; omega)))) | ((with_reducible refine Below.trans ?_ (Below.mono (by assumption) ?hB)); (case hB => (first | omega | (simp; done) | (simp; omega))))))⟩
      exact OwnG.of_form (E := RE) (l := [r]) (rest := []) (cap := 1) hz1 (blk_new w1 (.cells #[.int .i64 (r).x0, .int .i64 (r).y0, .int .i64 (r).x1, .int .i64 (r).y1] 26)) (by simp) (by decide) (by simp [RE, flatE])
end Go.Proofs.YtbkhcdmmnlkhdaaGreat
