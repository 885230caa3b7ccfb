/- The document's bytes of one argument, at every argument. -/
import Derived.Test.YtinnaiofgbjicaaDoorArgD
namespace Go.Proofs.YtinnaiofgbjicaaDoor
open Go.RowKit Go.Proofs.YtinnaiofgbjicaaDoorW.PrintWords
set_option linter.unusedSimpArgs false
set_option linter.unusedVariables false
set_option maxRecDepth 1000000
def smB (n : Int) : Bool := decide (smI n)
theorem ref_smallB (n : Int) (w : World) (v : Bool) (h : smB n = v) : Calls Tryd.prog 91 #[.int .i64 n] w fun e w' => e = .returned (.bool v) ∧ w = w' := by
  have := ref_small n w
  rw [← h]
  have e : decide (-2147483648 ≤ n ∧ n ≤ 2147483647) = smB n := decide_eq_decide.2 (by unfold smI; omega)
  rwa [e] at this
set_option maxHeartbeats 2000000 in
theorem ref_putNo (k : Int) (x : V8) (A : Option Addr) (m : Nat) (w : World) (h : putOk k x = false) : Calls Tryd.prog 62 #[.int .u8 k, (.agg #[.int .i64 (x.kind), .int .i64 (x.n), .string (x.s), .int .i64 (x.x0), .int .i64 (x.y0), .int .i64 (x.x1), .int .i64 (x.y1), .slice (A) (x.b.length) (m)])] w (PutPost w k x) := by
  have hP := Lib.hid h
  unfold putOk fitI fitS fitR fitB at h
  simp only [decide_eq_false_iff_not, not_or, decide_eq_true_eq] at h
  obtain ⟨h1, h2, h3, h4⟩ := h
  have h10 : k = 105 → x.kind = 0 → smB x.n = false := fun a b => decide_eq_false fun c => h1 ⟨b, .inl ⟨a, c⟩⟩
  have h11 : k = 117 → x.kind = 0 → ¬ (0 ≤ x.n ∧ x.n < 4294967296) := fun a b c => h1 ⟨b, .inr ⟨a, c⟩⟩
  have h12 : k = 115 → x.kind = 1 → ¬ x.s.size ≤ 255 := fun a b c => h2 ⟨b, a, c⟩
  have h13 : k = 114 → x.kind = 2 → smB x.x0 = true → smB x.y0 = true → smB x.x1 = true → smB x.y1 = false := fun a b c d e => decide_eq_false fun f => h3 ⟨b, a, of_decide_eq_true c, of_decide_eq_true d, of_decide_eq_true e, f⟩
  have h14 : k = 98 → x.kind = 3 → ¬ x.b.length ≤ 4096 := fun a b c => h4 ⟨b, a, c⟩
  clear h1 h2 h3 h4
  obtain ⟨kind, n, s, x0, y0, x1, y1, b⟩ := x
  simp only at h10 h11 h12 h13 h14 ⊢
  by_cases k1 : k = 105
  · subst k1
    by_cases q : kind = 0
    · subst q
      have hs := fun w => ref_smallB n w _ (h10 rfl rfl)
      clear h10 h11 h12 h13 h14
      go_enter Tryd.func62, Tryd.ntmps62
      go_wp2_with (first | (go_at_call 91; (with_reducible refine (hs _).mono ?_); rintro e w1 ⟨rfl, rfl⟩))
      go_ret2
      exact PutPost.no hP.out (by (repeat (first | (with_reducible exact Below.refl _ _) | ((with_reducible refine Below.alloc ?_ ?hB _); (case hB => (first | omega | (simp; done) | (simp; omega)))) | ((with_reducible refine Below.setCell ?_ ?hB _); (case hB => (first | omega | (simp; done) | (simp; omega)))) | (with_reducible refine Below.drew ?_) | ((with_reducible refine below_ext_of ?_ ?hB); (case hB => (first | omega | (simp; done) | (simp; omega)))) | ((with_reducible refine Below.trans ?_ (Below.mono (by assumption) ?hB)); (case hB => (first | omega | (simp; done) | (simp; omega)))))))
    · clear h10 h11 h12 h13 h14
      go_enter Tryd.func62, Tryd.ntmps62
      go_wp2
      go_ret2
      exact PutPost.no hP.out (by (repeat (first | (with_reducible exact Below.refl _ _) | ((with_reducible refine Below.alloc ?_ ?hB _); (case hB => (first | omega | (simp; done) | (simp; omega)))) | ((with_reducible refine Below.setCell ?_ ?hB _); (case hB => (first | omega | (simp; done) | (simp; omega)))) | (with_reducible refine Below.drew ?_) | ((with_reducible refine below_ext_of ?_ ?hB); (case hB => (first | omega | (simp; done) | (simp; omega)))) | ((with_reducible refine Below.trans ?_ (Below.mono (by assumption) ?hB)); (case hB => (first | omega | (simp; done) | (simp; omega)))))))
  · by_cases k2 : k = 117
    · subst k2
      by_cases q : kind = 0
      · subst q
        have hn := h11 rfl rfl
        clear h10 h11 h12 h13 h14
        go_enter Tryd.func62, Tryd.ntmps62
        go_wp2
        all_goals go_ret2
        all_goals exact PutPost.no hP.out (by (repeat (first | (with_reducible exact Below.refl _ _) | ((with_reducible refine Below.alloc ?_ ?hB _); (case hB => (first | omega | (simp; done) | (simp; omega)))) | ((with_reducible refine Below.setCell ?_ ?hB _); (case hB => (first | omega | (simp; done) | (simp; omega)))) | (with_reducible refine Below.drew ?_) | ((with_reducible refine below_ext_of ?_ ?hB); (case hB => (first | omega | (simp; done) | (simp; omega)))) | ((with_reducible refine Below.trans ?_ (Below.mono (by assumption) ?hB)); (case hB => (first | omega | (simp; done) | (simp; omega)))))))
      · clear h10 h11 h12 h13 h14
        go_enter Tryd.func62, Tryd.ntmps62
        go_wp2
        go_ret2
        exact PutPost.no hP.out (by (repeat (first | (with_reducible exact Below.refl _ _) | ((with_reducible refine Below.alloc ?_ ?hB _); (case hB => (first | omega | (simp; done) | (simp; omega)))) | ((with_reducible refine Below.setCell ?_ ?hB _); (case hB => (first | omega | (simp; done) | (simp; omega)))) | (with_reducible refine Below.drew ?_) | ((with_reducible refine below_ext_of ?_ ?hB); (case hB => (first | omega | (simp; done) | (simp; omega)))) | ((with_reducible refine Below.trans ?_ (Below.mono (by assumption) ?hB)); (case hB => (first | omega | (simp; done) | (simp; omega)))))))
    · by_cases k3 : k = 115
      · subst k3
        by_cases q : kind = 1
        · subst q
          have hn := h12 rfl rfl
          have hn2 : ¬ (s.size : Int) ≤ 255 := by omega
          clear h10 h11 h12 h13 h14
          go_enter Tryd.func62, Tryd.ntmps62
          go_wp2
          go_ret2
          exact PutPost.no hP.out (by (repeat (first | (with_reducible exact Below.refl _ _) | ((with_reducible refine Below.alloc ?_ ?hB _); (case hB => (first | omega | (simp; done) | (simp; omega)))) | ((with_reducible refine Below.setCell ?_ ?hB _); (case hB => (first | omega | (simp; done) | (simp; omega)))) | (with_reducible refine Below.drew ?_) | ((with_reducible refine below_ext_of ?_ ?hB); (case hB => (first | omega | (simp; done) | (simp; omega)))) | ((with_reducible refine Below.trans ?_ (Below.mono (by assumption) ?hB)); (case hB => (first | omega | (simp; done) | (simp; omega)))))))
        · clear h10 h11 h12 h13 h14
          go_enter Tryd.func62, Tryd.ntmps62
          go_wp2
          go_ret2
          exact PutPost.no hP.out (by (repeat (first | (with_reducible exact Below.refl _ _) | ((with_reducible refine Below.alloc ?_ ?hB _); (case hB => (first | omega | (simp; done) | (simp; omega)))) | ((with_reducible refine Below.setCell ?_ ?hB _); (case hB => (first | omega | (simp; done) | (simp; omega)))) | (with_reducible refine Below.drew ?_) | ((with_reducible refine below_ext_of ?_ ?hB); (case hB => (first | omega | (simp; done) | (simp; omega)))) | ((with_reducible refine Below.trans ?_ (Below.mono (by assumption) ?hB)); (case hB => (first | omega | (simp; done) | (simp; omega)))))))
      · by_cases k4 : k = 114
        · subst k4
          by_cases q : kind = 2
          · subst q
            have hn := h13 rfl rfl
            clear h10 h11 h12 h13 h14
            have t0 := fun w => ref_smallB x0 w _ rfl
            have t1 := fun w => ref_smallB y0 w _ rfl
            have t2 := fun w => ref_smallB x1 w _ rfl
            have t3 := fun w => ref_smallB y1 w _ rfl
            generalize smB x0 = v0 at *
            generalize smB y0 = v1 at *
            generalize smB x1 = v2 at *
            generalize smB y1 = v3 at *
            cases v0
            · go_enter Tryd.func62, Tryd.ntmps62
              go_wp2_with (first | (go_at_call 91; (with_reducible refine (t0 _).mono ?_); rintro e w1 ⟨rfl, rfl⟩))
              go_ret2
              exact PutPost.no hP.out (by (repeat (first | (with_reducible exact Below.refl _ _) | ((with_reducible refine Below.alloc ?_ ?hB _); (case hB => (first | omega | (simp; done) | (simp; omega)))) | ((with_reducible refine Below.setCell ?_ ?hB _); (case hB => (first | omega | (simp; done) | (simp; omega)))) | (with_reducible refine Below.drew ?_) | ((with_reducible refine below_ext_of ?_ ?hB); (case hB => (first | omega | (simp; done) | (simp; omega)))) | ((with_reducible refine Below.trans ?_ (Below.mono (by assumption) ?hB)); (case hB => (first | omega | (simp; done) | (simp; omega)))))))
            · cases v1
              · go_enter Tryd.func62, Tryd.ntmps62
                go_wp2_with (first | (go_at_call 91; (with_reducible refine (t0 _).mono ?_); rintro e w1 ⟨rfl, rfl⟩) | (go_at_call 91; (with_reducible refine (t1 _).mono ?_); rintro e w1 ⟨rfl, rfl⟩))
                go_ret2
                exact PutPost.no hP.out (by (repeat (first | (with_reducible exact Below.refl _ _) | ((with_reducible refine Below.alloc ?_ ?hB _); (case hB => (first | omega | (simp; done) | (simp; omega)))) | ((with_reducible refine Below.setCell ?_ ?hB _); (case hB => (first | omega | (simp; done) | (simp; omega)))) | (with_reducible refine Below.drew ?_) | ((with_reducible refine below_ext_of ?_ ?hB); (case hB => (first | omega | (simp; done) | (simp; omega)))) | ((with_reducible refine Below.trans ?_ (Below.mono (by assumption) ?hB)); (case hB => (first | omega | (simp; done) | (simp; omega)))))))
              · cases v2
                · go_enter Tryd.func62, Tryd.ntmps62
                  go_wp2_with (first | (go_at_call 91; (with_reducible refine (t0 _).mono ?_); rintro e w1 ⟨rfl, rfl⟩) | (go_at_call 91; (with_reducible refine (t1 _).mono ?_); rintro e w1 ⟨rfl, rfl⟩) | (go_at_call 91; (with_reducible refine (t2 _).mono ?_); rintro e w1 ⟨rfl, rfl⟩))
                  go_ret2
                  exact PutPost.no hP.out (by (repeat (first | (with_reducible exact Below.refl _ _) | ((with_reducible refine Below.alloc ?_ ?hB _); (case hB => (first | omega | (simp; done) | (simp; omega)))) | ((with_reducible refine Below.setCell ?_ ?hB _); (case hB => (first | omega | (simp; done) | (simp; omega)))) | (with_reducible refine Below.drew ?_) | ((with_reducible refine below_ext_of ?_ ?hB); (case hB => (first | omega | (simp; done) | (simp; omega)))) | ((with_reducible refine Below.trans ?_ (Below.mono (by assumption) ?hB)); (case hB => (first | omega | (simp; done) | (simp; omega)))))))
                · obtain rfl := hn rfl rfl rfl
                  clear hn
                  go_enter Tryd.func62, Tryd.ntmps62
                  go_wp2_with (first | (go_at_call 91; (with_reducible refine (t0 _).mono ?_); rintro e w1 ⟨rfl, rfl⟩) | (go_at_call 91; (with_reducible refine (t1 _).mono ?_); rintro e w1 ⟨rfl, rfl⟩) | (go_at_call 91; (with_reducible refine (t2 _).mono ?_); rintro e w1 ⟨rfl, rfl⟩) | (go_at_call 91; (with_reducible refine (t3 _).mono ?_); rintro e w1 ⟨rfl, rfl⟩))
                  go_ret2
                  exact PutPost.no hP.out (by (repeat (first | (with_reducible exact Below.refl _ _) | ((with_reducible refine Below.alloc ?_ ?hB _); (case hB => (first | omega | (simp; done) | (simp; omega)))) | ((with_reducible refine Below.setCell ?_ ?hB _); (case hB => (first | omega | (simp; done) | (simp; omega)))) | (with_reducible refine Below.drew ?_) | ((with_reducible refine below_ext_of ?_ ?hB); (case hB => (first | omega | (simp; done) | (simp; omega)))) | ((with_reducible refine Below.trans ?_ (Below.mono (by assumption) ?hB)); (case hB => (first | omega | (simp; done) | (simp; omega)))))))
          · clear h10 h11 h12 h13 h14
            go_enter Tryd.func62, Tryd.ntmps62
            go_wp2
            go_ret2
            exact PutPost.no hP.out (by (repeat (first | (with_reducible exact Below.refl _ _) | ((with_reducible refine Below.alloc ?_ ?hB _); (case hB => (first | omega | (simp; done) | (simp; omega)))) | ((with_reducible refine Below.setCell ?_ ?hB _); (case hB => (first | omega | (simp; done) | (simp; omega)))) | (with_reducible refine Below.drew ?_) | ((with_reducible refine below_ext_of ?_ ?hB); (case hB => (first | omega | (simp; done) | (simp; omega)))) | ((with_reducible refine Below.trans ?_ (Below.mono (by assumption) ?hB)); (case hB => (first | omega | (simp; done) | (simp; omega)))))))
        · by_cases k5 : k = 98
          · subst k5
            by_cases q : kind = 3
            · subst q
              have hn := h14 rfl rfl
              have hn2 : ¬ (b.length : Int) ≤ 4096 := by omega
              clear h10 h11 h12 h13 h14
              go_enter Tryd.func62, Tryd.ntmps62
              go_wp2
              go_ret2
              exact PutPost.no hP.out (by (repeat (first | (with_reducible exact Below.refl _ _) | ((with_reducible refine Below.alloc ?_ ?hB _); (case hB => (first | omega | (simp; done) | (simp; omega)))) | ((with_reducible refine Below.setCell ?_ ?hB _); (case hB => (first | omega | (simp; done) | (simp; omega)))) | (with_reducible refine Below.drew ?_) | ((with_reducible refine below_ext_of ?_ ?hB); (case hB => (first | omega | (simp; done) | (simp; omega)))) | ((with_reducible refine Below.trans ?_ (Below.mono (by assumption) ?hB)); (case hB => (first | omega | (simp; done) | (simp; omega)))))))
            · clear h10 h11 h12 h13 h14
              go_enter Tryd.func62, Tryd.ntmps62
              go_wp2
              go_ret2
              exact PutPost.no hP.out (by (repeat (first | (with_reducible exact Below.refl _ _) | ((with_reducible refine Below.alloc ?_ ?hB _); (case hB => (first | omega | (simp; done) | (simp; omega)))) | ((with_reducible refine Below.setCell ?_ ?hB _); (case hB => (first | omega | (simp; done) | (simp; omega)))) | (with_reducible refine Below.drew ?_) | ((with_reducible refine below_ext_of ?_ ?hB); (case hB => (first | omega | (simp; done) | (simp; omega)))) | ((with_reducible refine Below.trans ?_ (Below.mono (by assumption) ?hB)); (case hB => (first | omega | (simp; done) | (simp; omega)))))))
          · clear h10 h11 h12 h13 h14
            go_enter Tryd.func62, Tryd.ntmps62
            go_wp2
            go_ret2
            exact PutPost.no hP.out (by (repeat (first | (with_reducible exact Below.refl _ _) | ((with_reducible refine Below.alloc ?_ ?hB _); (case hB => (first | omega | (simp; done) | (simp; omega)))) | ((with_reducible refine Below.setCell ?_ ?hB _); (case hB => (first | omega | (simp; done) | (simp; omega)))) | (with_reducible refine Below.drew ?_) | ((with_reducible refine below_ext_of ?_ ?hB); (case hB => (first | omega | (simp; done) | (simp; omega)))) | ((with_reducible refine Below.trans ?_ (Below.mono (by assumption) ?hB)); (case hB => (first | omega | (simp; done) | (simp; omega)))))))
theorem ref_put (k : Int) (x : V8) (ok : x.Ok) (A : Option Addr) (m : Nat) (w : World) (hm : x.b.length ≤ m) (hr : ReadsInt w .u8 A x.b.length x.b) : Calls Tryd.prog 62 #[.int .u8 k, (.agg #[.int .i64 (x.kind), .int .i64 (x.n), .string (x.s), .int .i64 (x.x0), .int .i64 (x.y0), .int .i64 (x.x1), .int .i64 (x.y1), .slice (A) (x.b.length) (m)])] w (PutPost w k x) := by
  cases h : putOk k x
  · exact ref_putNo k x A m w h
  · unfold putOk fitI fitS fitR fitB at h
    simp only [decide_eq_true_eq] at h
    rcases h with ⟨h1, ⟨rfl, h2⟩ | ⟨rfl, h2⟩⟩ | ⟨h1, rfl, h2⟩ | ⟨h1, rfl, h2, h3, h4, h5⟩ | ⟨h1, rfl, h2⟩
    · exact ref_putI x ok A m w h1 h2
    · exact ref_putU x ok A m w h1 h2
    · exact ref_putS x ok A m w h1 h2
    · exact ref_putR x ok A m w h1 h2 h3 h4 h5
    · exact ref_putB x ok A m w h1 h2 hm hr
end Go.Proofs.YtinnaiofgbjicaaDoor
