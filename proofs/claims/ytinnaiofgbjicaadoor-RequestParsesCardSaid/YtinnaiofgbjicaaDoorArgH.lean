/- The document's bytes of one argument, at every argument. -/
import Derived.Test.YtinnaiofgbjicaaDoorArgD
namespace Go.Proofs.YtinnaiofgbjicaaDoor
open Go.RowKit Go.Proofs.YtinnaiofgbjicaaDoorW.PrintWords
set_option linter.unusedSimpArgs false
set_option linter.unusedVariables false
set_option maxRecDepth 1000000
def smB (n : Int) : Bool := decide (smI n)
theorem ref_smallB (n : Int) (w : World) (v : Bool) (h : smB n = v) : Calls Tryd.prog 91 #[.int .i64 n] w fun e w' => e = .returned (.bool v) ∧ w = w' := by
  have := ref_small n w
  rw [← h]
  have e : decide (-2147483648 ≤ n ∧ n ≤ 2147483647) = smB n := decide_eq_decide.2 (by unfold smI; omega)
  rwa [e] at this
set_option maxHeartbeats 2000000 in
theorem ref_putNo (k : Int) (x : V8) (A : Option Addr) (m : Nat) (w : World) (h : putOk k x = false) : Calls Tryd.prog 62 #[.int .u8 k, (.agg #[.int .i64 (x.kind), .int .i64 (x.n), .string (x.s), .int .i64 (x.x0), .int .i64 (x.y0), .int .i64 (x.x1), .int .i64 (x.y1), .slice (A) (x.b.length) (m)])] w (PutPost w k x) := by
  have hP := Lib.hid h
  unfold putOk fitI fitS fitR fitB at h
  simp only [decide_eq_false_iff_not, not_or, decide_eq_true_eq] at h
  obtain ⟨h1, h2, h3, h4⟩ := h
  have h10 : k = 105 → x.kind = 0 → smB x.n = false := fun a b => decide_eq_false fun c => h1 ⟨b, .inl ⟨a, c⟩⟩
  have h11 : k = 117 → x.kind = 0 → ¬ (0 ≤ x.n ∧ x.n < 4294967296) := fun a b c => h1 ⟨b, .inr ⟨a, c⟩⟩
  have h12 : k = 115 → x.kind = 1 → ¬ x.s.size ≤ 255 := fun a b c => h2 ⟨b, a, c⟩
  have h13 : k = 114 → x.kind = 2 → smB x.x0 = true → smB x.y0 = true → smB x.x1 = true → smB x.y1 = false := fun a b c d e => decide_eq_false fun f => h3 ⟨b, a, of_decide_eq_true c, of_decide_eq_true d, of_decide_eq_true e, f⟩
  have h14 : k = 98 → x.kind = 3 → ¬ x.b.length ≤ 4096 := fun a b c => h4 ⟨b, a, c⟩
  clear h1 h2 h3 h4
  obtain ⟨kind, n, s, x0, y0, x1, y1, b⟩ := x
  simp only at h10 h11 h12 h13 h14 ⊢
  by_cases k1 : k = 105
  · subst k1
    by_cases q : kind = 0
    · subst q
      have hs := fun w => ref_smallB n w _ (h10 rfl rfl)
      clear h10 h11 h12 h13 h14
      go_enter Tryd.func62, Tryd.ntmps62
      go_wp2_with (first | (go_at_call 91; (with_reducible refine (hs _).mono ?_); rintro e w1 ⟨rfl, rfl⟩))
      go_ret2
      exact PutPost.no hP.out (by (repeat (first | (with_reducible exact Below.refl _ _) | ((with_reducible refine Below.alloc ?_ ?hB _); (case hB => (first | omega | (simp; done) | (simp; omega)))) | ((with_reducible refine Below.setCell ?_ ?hB _); (case hB => (first | omega | (simp; done) | (simp; omega)))) | (with_reducible refine Below.drew ?_) | ((with_reducible refine below_ext_of ?_ ?hB); (case hB => (first | omega | (simp; done) | (simp; omega)))) | ((with_reducible refine Below.trans ?_ (Below.mono (by assumption) ?hB)); (case hB => (first | omega | (simp; done) | (simp; omega)))))))
    · clear h10 h11 h12 h13 h14
      go_enter Tryd.func62, Tryd.ntmps62
      go_wp2
      go_ret2
      exact PutPost.no hP.out (by (repeat (first | (with_reducible exact Below.refl _ _) | ((with_reducible refine Below.alloc ?_ ?hB _); (case hB => (first | omega | (simp; done) | (simp; omega)))) | ((with_reducible refine Below.setCell ?_ ?hB _); (case hB => (first | omega | (simp; done) | (simp; omega)))) | (with_reducible refine Below.drew ?_) | ((with_reducible refine below_ext_of ?_ ?hB); (case hB => (first | omega | (simp; done) | (simp; omega)))) | ((with_reducible refine Below.trans ?_ (Below.mono (by assumption) ?hB)); (case hB => (first | omega | (simp; done) | (simp; omega)))))))
  · by_cases k2 : k = 117
    · subst k2
      by_cases q : kind = 0
      · subst q
        have hn := h11 rfl rfl
        clear h10 h11 h12 h13 h14
        go_enter Tryd.func62, Tryd.ntmps62
        go_wp2
        all_goals go_ret2
        all_goals exact PutPost.no hP.out (by (repeat (first | (with_reducible exact Below.refl _ _) | ((with_reducible refine Below.alloc ?_ ?hB _); (case hB => (first | omega | (simp; done) | (simp; omega)))) | ((with_reducible refine Below.setCell ?_ ?hB _); (case hB => (first | omega | (simp; done) | (simp; omega)))) | (with_reducible refine Below.drew ?_) | ((with_reducible refine below_ext_of ?_ ?hB); (case hB => (first | omega | (simp; done) | (simp; omega)))) | ((with_reducible refine Below.trans ?_ (Below.mono (by assumption) ?hB)); (case hB => (first | omega | (simp; done) | (simp; omega)))))))
      · clear h10 h11 h12 h13 h14
        go_enter Tryd.func62, Tryd.ntmps62
        go_wp2
        go_ret2
        exact PutPost.no hP.out (by (repeat (first | (with_reducible exact Below.refl _ _) | ((with_reducible refine Below.alloc ?_ ?hB _); (case hB => (first | omega | (simp; done) | (simp; omega)))) | ((with_reducible refine Below.setCell ?_ ?hB _); (case hB => (first | omega | (simp; done) | (simp; omega)))) | (with_reducible refine Below.drew ?_) | ((with_reducible refine below_ext_of ?_ ?hB); (case hB => (first | omega | (simp; done) | (simp; omega)))) | ((with_reducible refine Below.trans ?_ (Below.mono (by assumption) ?hB)); (case hB => (first | omega | (simp; done) | (simp; omega)))))))
    · by_cases k3 : k = 115
      · subst k3
        by_cases q : kind = 1
        · subst q
          have hn := h12 rfl rfl
          have hn2 : ¬ (s.size : Int) ≤ 255 := by omega
          clear h10 h11 h12 h13 h14
          go_enter Tryd.func62, Tryd.ntmps62
          go_wp2
          go_ret2
          exact PutPost.no hP.out (by (repeat (first | (with_reducible exact Below.refl _ _) | ((with_reducible refine Below.alloc ?_ ?hB _); (case hB => (first | omega | (simp; done) | (simp; omega)))) | ((with_reducible refine Below.setCell ?_ ?hB _); (case hB => (first | omega | (simp; done) | (simp; omega)))) | (with_reducible refine Below.drew ?_) | ((with_reducible refine below_ext_of ?_ ?hB); (case hB => (first | omega | (simp; done) | (simp; omega)))) | ((with_reducible refine Below.trans ?_ (Below.mono (by assumption) ?hB)); (case hB => (first | omega | (simp; done) | (simp; omega)))))))
        · clear h10 h11 h12 h13 h14
          go_enter Tryd.func62, Tryd.ntmps62
          go_wp2
          go_ret2
          exact PutPost.no hP.out (by (repeat (first | (with_reducible exact Below.refl _ _) | ((with_reducible refine Below.alloc ?_ ?hB _); (case hB => (first | omega | (simp; done) | (simp; omega)))) | ((with_reducible refine Below.setCell ?_ ?hB _); (case hB => (first | omega | (simp; done) | (simp; omega)))) | (with_reducible refine Below.drew ?_) | ((with_reducible refine below_ext_of ?_ ?hB); (case hB => (first | omega | (simp; done) | (simp; omega)))) | ((with_reducible refine Below.trans ?_ (Below.mono (by assumption) ?hB)); (case hB => (first | omega | (simp; done) | (simp; omega)))))))
      · by_cases k4 : k = 114
        · subst k4
          by_cases q : kind = 2
          · subst q
            have hn := h13 rfl rfl
            clear h10 h11 h12 h13 h14
            have t0 := fun w => ref_smallB x0 w _ rfl
            have t1 := fun w => ref_smallB y0 w _ rfl
            have t2 := fun w => ref_smallB x1 w _ rfl
            have t3 := fun w => ref_smallB y1 w _ rfl
            generalize smB x0 = v0 at *
            generalize smB y0 = v1 at *
            generalize smB x1 = v2 at *
            generalize smB y1 = v3 at *
            cases v0
            · go_enter Tryd.func62, Tryd.ntmps62
              go_wp2_with (first | (go_at_call 91; (with_reducible refine (t0 _).mono ?_); rintro e w1 ⟨rfl, rfl⟩))
              go_ret2
              exact PutPost.no hP.out (by (repeat (first | (with_reducible exact Below.refl _ _) | ((with_reducible refine Below.alloc ?_ ?hB _); (case hB => (first | omega | (simp; done) | (simp; omega)))) | ((with_reducible refine Below.setCell ?_ ?hB _); (case hB => (first | omega | (simp; done) | (simp; omega)))) | (with_reducible refine Below.drew ?_) | ((with_reducible refine below_ext_of ?_ ?hB); (case hB => (first | omega | (simp; done) | (simp; omega)))) | ((with_reducible refine Below.trans ?_ (Below.mono (by assumption) ?hB)); (case hB => (first | omega | (simp; done) | (simp; omega)))))))
            · cases v1
              · go_enter Tryd.func62, Tryd.ntmps62
                go_wp2_with (first | (go_at_call 91; (with_reducible refine (t0 _).mono ?_); rintro e w1 ⟨rfl, rfl⟩) | (go_at_call 91; (with_reducible refine (t1 _).mono ?_); rintro e w1 ⟨rfl, rfl⟩))
                go_ret2
                exact PutPost.no hP.out (by (repeat (first | (with_reducible exact Below.refl _ _) | ((with_reducible refine Below.alloc ?_ ?hB _); (case hB => (first | omega | (simp; done) | (simp; omega)))) | ((with_reducible refine Below.setCell ?_ ?hB _); (case hB => (first | omega | (simp; done) | (simp; omega)))) | (with_reducible refine Below.drew ?_) | ((with_reducible refine below_ext_of ?_ ?hB); (case hB => (first | omega | (simp; done) | (simp; omega)))) | ((with_reducible refine Below.trans ?_ (Below.mono (by assumption) ?hB)); (case hB => (first | omega | (simp; done) | (simp; omega)))))))
              · cases v2
                · go_enter Tryd.func62, Tryd.ntmps62
                  go_wp2_with (first | (go_at_call 91; (with_reducible refine (t0 _).mono ?_); rintro e w1 ⟨rfl, rfl⟩) | (go_at_call 91; (with_reducible refine (t1 _).mono ?_); rintro e w1 ⟨rfl, rfl⟩) | (go_at_call 91; (with_reducible refine (t2 _).mono ?_); rintro e w1 ⟨rfl, rfl⟩))
                  go_ret2
                  exact PutPost.no hP.out (by (repeat (first | (with_reducible exact Below.refl _ _) | ((with_reducible refine Below.alloc ?_ ?hB _); (case hB => (first | omega | (simp; done) | (simp; omega)))) | ((with_reducible refine Below.setCell ?_ ?hB _); (case hB => (first | omega | (simp; done) | (simp; omega)))) | (with_reducible refine Below.drew ?_) | ((with_reducible refine below_ext_of ?_ ?hB); (case hB => (first | omega | (simp; done) | (simp; omega)))) | ((with_reducible refine Below.trans ?_ (Below.mono (by assumption) ?hB)); (case hB => (first | omega | (simp; done) | (simp; omega)))))))
                · obtain rfl := hn rfl rfl rfl
                  clear hn
                  go_enter Tryd.func62, Tryd.ntmps62
                  go_wp2_with (first | (go_at_call 91; (with_reducible refine (t0 _).mono ?_); rintro e w1 ⟨rfl, rfl⟩) | (go_at_call 91; (with_reducible refine (t1 _).mono ?_); rintro e w1 ⟨rfl, rfl⟩) | (go_at_call 91; (with_reducible refine (t2 _).mono ?_); rintro e w1 ⟨rfl, rfl⟩) | (go_at_call 91; (with_reducible refine (t3 _).mono ?_); rintro e w1 ⟨rfl, rfl⟩))
                  go_ret2
                  exact PutPost.no hP.out (by (repeat (first | (with_reducible exact Below.refl _ _) | ((with_reducible refine Below.alloc ?_ ?hB _); (case hB => (first | omega | (simp; done) | (simp; omega)))) | ((with_reducible refine Below.setCell ?_ ?hB _); (case hB => (first | omega | (simp; done) | (simp; omega)))) | (with_reducible refine Below.drew ?_) | ((with_reducible refine below_ext_of ?_ ?hB); (case hB => (first | omega | (simp; done) | (simp; omega)))) | ((with_reducible refine Below.trans ?_ (Below.mono (by assumption) ?hB)); (case hB => (first | omega | (simp; done) | (simp; omega)))))))
          · clear h10 h11 h12 h13 h14
            go_enter Tryd.func62, Tryd.ntmps62
            go_wp2
            go_ret2
            exact PutPost.no hP.out (by (repeat (first | (with_reducible exact Below.refl _ _) | ((with_reducible refine Below.alloc ?_ ?hB _); (case hB => (first | omega | (simp; done) | (simp; omega)))) | ((with_reducible refine Below.setCell ?_ ?hB _); (case hB => (first | omega | (simp; done) | (simp; omega)))) | (with_reducible refine Below.drew ?_) | ((with_reducible refine below_ext_of ?_ ?hB); (case hB => (first | omega | (simp; done) | (simp; omega)))) | ((with_reducible refine Below.trans ?_ (Below.mono (by assumption) ?hB)); (case hB => (first | omega | (simp; done) | (simp; omega)))))))
        · by_cases k5 : k = 98
          · subst k5
            by_cases q : kind = 3
            · subst q
              have hn := h14 rfl rfl
              have hn2 : ¬ (b.length : Int) ≤ 4096 := by omega
              clear h10 h11 h12 h13 h14
              go_enter Tryd.func62, Tryd.ntmps62
              go_wp2
              go_ret2
              exact PutPost.no hP.out (by (repeat (first | (with_reducible exact Below.refl _ _) | ((with_reducible refine Below.alloc ?_ ?hB _); (case hB => (first | omega | (simp; done) | (simp; omega)))) | ((with_reducible refine Below.setCell ?_ ?hB _); (case hB => (first | omega | (simp; done) | (simp; omega)))) | (with_reducible refine Below.drew ?_) | ((with_reducible refine below_ext_of ?_ ?hB); (case hB => (first | omega | (simp; done) | (simp; omega)))) | ((with_reducible refine Below.trans ?_ (Below.mono (by assumption) ?hB)); (case hB => (first | omega | (simp; done) | (simp; omega)))))))
            · clear h10 h11 h12 h13 h14
              go_enter Tryd.func62, Tryd.ntmps62
              go_wp2
              go_ret2
              exact PutPost.no hP.out (by (repeat (first | (with_reducible exact Below.refl _ _) | ((with_reducible refine Below.alloc ?_ ?hB _); (case hB => (first | omega | (simp; done) | (simp; omega)))) | ((with_reducible refine Below.setCell ?_ ?hB _); (case hB => (first | omega | (simp; done) | (simp; omega)))) | (with_reducible refine Below.drew ?_) | ((with_reducible refine below_ext_of ?_ ?hB); (case hB => (first | omega | (simp; done) | (simp; omega)))) | ((with_reducible refine Below.trans ?_ (Below.mono (by assumption) ?hB)); (case hB => (first | omega | (simp; done) | (simp; omega)))))))
          · clear h10 h11 h12 h13 h14
            go_enter Tryd.func62, Tryd.ntmps62
            go_wp2
            go_ret2
            exact PutPost.no hP.out (by (repeat (first | (with_reducible exact Below.refl _ _) | ((with_reducible refine Below.alloc ?_ ?hB _); (case hB => (first | omega | (simp; done) | (simp; omega)))) | ((with_reducible refine Below.setCell ?_ ?hB _); (case hB => (first | omega | (simp; done) | (simp; omega)))) | (with_reducible refine Below.drew ?_) | ((with_reducible refine below_ext_of ?_ ?hB); (case hB => (first | omega | (simp; done) | (simp; omega)))) | ((with_reducible refine Below.trans ?_ (Below.mono (by assumption) ?hB)); (case hB => (first | omega | (simp; done) | (simp; omega)))))))
theorem ref_put (k : Int) (x : V8) (ok : x.Ok) (A : Option Addr) (m : Nat) (w : World) (hm : x.b.length ≤ m) (hr : ReadsInt w .u8 A x.b.length x.b) : Calls Tryd.prog 62 #[.int .u8 k, (.agg #[.int .i64 (x.kind), .int .i64 (x.n), .string (x.s), .int .i64 (x.x0), .int .i64 (x.y0), .int .i64 (x.x1), .int .i64 (x.y1), .slice (A) (x.b.length) (m)])] w (PutPost w k x) := by
  cases h : putOk k x
  · exact ref_putNo k x A m w h
  · unfold putOk fitI fitS fitR fitB at h
    simp only [decide_eq_true_eq] at h
    rcases h with ⟨h1, ⟨rfl, h2⟩ | ⟨rfl, h2⟩⟩ | ⟨h1, rfl, h2⟩ | ⟨h1, rfl, h2, h3, h4, h5⟩ | ⟨h1, rfl, h2⟩
    · exact ref_putI x ok A m w h1 h2
    · exact ref_putU x ok A m w h1 h2
    · exact ref_putS x ok A m w h1 h2
    · exact ref_putR x ok A m w h1 h2 h3 h4 h5
    · exact ref_putB x ok A m w h1 h2 hm hr
end Go.Proofs.YtinnaiofgbjicaaDoor
namespace Go.Proofs.YtinnaiofgbjicaaDoor
open Go.RowKit Go.Proofs.YtinnaiofgbjicaaDoorW.PrintWords
set_option linter.unusedSimpArgs false
set_option linter.unusedVariables false
set_option maxRecDepth 1000000
/-- A value of any type holds an argument. -/
inductive AnyR (w : World) (x : V8) : Value → Prop
  | int (h : x.kind = 0) : AnyR w x (.iface 3 (.int .i64 x.n))
  | str (h : x.kind = 1) : AnyR w x (.iface 9 (.string x.s))
  | rect (h : x.kind = 2) : AnyR w x (.iface 26 ((.agg #[.int .i64 (x.x0), .int .i64 (x.y0), .int .i64 (x.x1), .int .i64 (x.y1)])))
  | byt (h : x.kind = 3) (A : Option Addr) (m : Nat) (hm : x.b.length ≤ m) (hr : ReadsInt w .u8 A x.b.length x.b) : AnyR w x (.iface 22 (.slice A x.b.length m))
  | oth (h : ¬ x.kind = 0 ∧ ¬ x.kind = 1 ∧ ¬ x.kind = 2 ∧ ¬ x.kind = 3) : AnyR w x (.iface 4 (.bool true))
theorem AnyR.below {w w1 : World} {x : V8} {v : Value} (h : AnyR w x v) (hb : Below w.heap.size w w1) : AnyR w1 x v := by
  cases h with
  | int h => exact .int h
  | str h => exact .str h
  | rect h => exact .rect h
  | byt h A m hm hr => exact .byt h A m hm (hr.below hb)
  | oth h => exact .oth h
theorem AnyR.one {w : World} {x : V8} {v : Value} (h : AnyR w x v) : v.oneCell' = true := by cases h <;> rfl
theorem args_put (k : Int) (x : V8) (ok : x.Ok) (v : Value) (w : World) (h : AnyR w x v) : Calls Tryd.prog 90 #[.int .u8 k, v] w (PutPost w k x) := by
  cases h with
  | int h =>
    have hP : putOk k x = fitI k x.n := by unfold putOk; rw [Bool.eq_iff_iff]; simp [h]
    have hB : putB x = b4 x.n := by unfold putB; rw [if_pos h]
    refine (put_int k x.n w ok.n).mono fun e w' ⟨he, hw⟩ => ?_
    subst hw
    refine ⟨_, _, _, by rw [he, hP], fun _ => ⟨by rw [hB]; rfl, Nat.le_refl _, ?_⟩, by (repeat (first | (with_reducible exact Below.refl _ _) | ((with_reducible refine Below.alloc ?_ ?hB _); (case hB => (first | omega | (simp; done) | (simp; omega)))) | ((with_reducible refine Below.setCell ?_ ?hB _); (case hB => (first | omega | (simp; done) | (simp; omega)))) | (with_reducible refine Below.drew ?_) | ((with_reducible refine below_ext_of ?_ ?hB); (case hB => (first | omega | (simp; done) | (simp; omega)))) | ((with_reducible refine Below.trans ?_ (Below.mono (by assumption) ?hB)); (case hB => (first | omega | (simp; done) | (simp; omega))))))⟩
    rw [hB]; exact reads_lit w (b4 x.n) (by simp [b4])
  | str h =>
    have hP : putOk k x = fitS k x.s := by unfold putOk; rw [Bool.eq_iff_iff]; simp [h]
    have hB : putB x = strB x.s := by unfold putB; rw [if_neg (by omega), if_pos h]
    refine (put_str k x.s w ok.s).mono fun e w' ⟨v, he, ho, hb⟩ => ?_
    obtain ⟨A, c, rfl, hr⟩ := own_reads ho
    exact ⟨A, _, c, by rw [he, hP], fun _ => ⟨by rw [hB], own_le ho, by rw [hB]; exact hr⟩, hb⟩
  | rect h =>
    have hP : putOk k x = fitR k x.x0 x.y0 x.x1 x.y1 := by unfold putOk; rw [Bool.eq_iff_iff]; simp [h]
    have hB : putB x = rectB x.x0 x.y0 x.x1 x.y1 := by unfold putB; rw [if_neg (by omega), if_neg (by omega), if_pos h]
    refine (put_rect k x.x0 x.y0 x.x1 x.y1 w ok.x0 ok.y0 ok.x1 ok.y1).mono fun e w' ⟨v, he, ho, hb⟩ => ?_
    obtain ⟨A, c, rfl, hr⟩ := own_reads ho
    exact ⟨A, _, c, by rw [he, hP], fun _ => ⟨by rw [hB], own_le ho, by rw [hB]; exact hr⟩, hb⟩
  | byt h A m hm hr =>
    have hP : putOk k x = fitB k x.b.length := by unfold putOk; rw [Bool.eq_iff_iff]; simp [h]
    have hB : putB x = x.b := by unfold putB; rw [if_neg (by omega), if_neg (by omega), if_neg (by omega)]
    refine (put_byt k A x.b.length m w).mono fun e w' ⟨he, hw⟩ => ?_
    subst hw
    exact ⟨A, _, m, by rw [he, hP], fun _ => ⟨by rw [hB], hm, by rw [hB]; exact hr⟩, Below.refl _ _⟩
  | oth h =>
    obtain ⟨h0, h1, h2, h3⟩ := h
    have hP : putOk k x = false := by unfold putOk; rw [decide_eq_false_iff_not]; simp [h0, h1, h2, h3]
    refine (put_oth k w).mono fun e w' ⟨he, hw⟩ => ?_
    subst hw; subst he
    exact PutPost.no hP (Below.refl _ _)
def IsAny (w : World) (x : V8) (w2 : World) (e : Ending) (w' : World) : Prop := ∃ v, e = .returned v ∧ AnyR w x v ∧ w2 = w'
end Go.Proofs.YtinnaiofgbjicaaDoor
namespace Go.Proofs.YtinnaiofgbjicaaDoor
open Go.RowKit Go.Proofs.YtinnaiofgbjicaaDoorW.PrintWords
set_option linter.unusedSimpArgs false
set_option linter.unusedVariables false
set_option maxRecDepth 1000000
def v0 : V8 := ⟨0, 0, ⟨#[]⟩, 0, 0, 0, 0, []⟩
def at8 (l : List V8) (i : Nat) : V8 := l.getD i v0
/-- A row of arguments, read. -/
def VRow (w : World) (A : Option Addr) (l : List V8) : Prop := ∀ i, i < l.length → ∃ ad Ab m, A = some ad ∧
  w.cell? (ad.add (i * 8)) = some (.int .i64 (at8 l i).kind) ∧ w.cell? ⟨(ad.add (i * 8)).block, (ad.add (i * 8)).off + 1, none⟩ = some (.int .i64 (at8 l i).n) ∧
  w.cell? ⟨(ad.add (i * 8)).block, (ad.add (i * 8)).off + 2, none⟩ = some (.string (at8 l i).s) ∧ w.cell? ⟨(ad.add (i * 8)).block, (ad.add (i * 8)).off + 3, none⟩ = some (.int .i64 (at8 l i).x0) ∧
  w.cell? ⟨(ad.add (i * 8)).block, (ad.add (i * 8)).off + 4, none⟩ = some (.int .i64 (at8 l i).y0) ∧ w.cell? ⟨(ad.add (i * 8)).block, (ad.add (i * 8)).off + 5, none⟩ = some (.int .i64 (at8 l i).x1) ∧
  w.cell? ⟨(ad.add (i * 8)).block, (ad.add (i * 8)).off + 6, none⟩ = some (.int .i64 (at8 l i).y1) ∧ w.cell? ⟨(ad.add (i * 8)).block, (ad.add (i * 8)).off + 7, none⟩ = some (.slice Ab (at8 l i).b.length m) ∧
  (at8 l i).b.length ≤ m ∧ ReadsInt w .u8 Ab (at8 l i).b.length (at8 l i).b
theorem VRow.below {w w1 : World} {A : Option Addr} {l : List V8} (h : VRow w A l) (hb : Below w.heap.size w w1) : VRow w1 A l := by
  intro i hi
  obtain ⟨ad, Ab, m, rfl, h0, h1, h2, h3, h4, h5, h6, h7, h8, h9⟩ := h i hi
  exact ⟨ad, Ab, m, rfl, pw_cell_below hb h0, pw_cell_below hb h1, pw_cell_below hb h2, pw_cell_below hb h3, pw_cell_below hb h4, pw_cell_below hb h5, pw_cell_below hb h6, pw_cell_below hb h7, h8, h9.below hb⟩
def AllOk (l : List V8) : Prop := ∀ i, i < l.length → (at8 l i).Ok
/-- A row of values of any type, read. -/
def AnyRow (w : World) (A : Option Addr) (l : List V8) : Prop := ∀ i, i < l.length → ∃ ad u, A = some ad ∧ w.cell? (ad.add i) = some u ∧ AnyR w (at8 l i) u
theorem AnyRow.below {w w1 : World} {A : Option Addr} {l : List V8} (h : AnyRow w A l) (hb : Below w.heap.size w w1) : AnyRow w1 A l := by
  intro i hi
  obtain ⟨ad, u, rfl, h0, h1⟩ := h i hi
  exact ⟨ad, u, rfl, pw_cell_below hb h0, h1.below hb⟩
/-- A row of such values of the call's own; what they lead to is read in an elder world. -/
def OwnAny (wq w : World) (base : Nat) (v : Value) (l : List V8) (k : Nat) : Prop := ∃ cells : List Value, w.ownsRow base 20 1 v cells.length cells ∧ cells.length = k ∧ ∀ i, i < k → AnyR wq (at8 l i) (cells.getD i .nilIface)
theorem OwnAny.below {wq w w1 : World} {base : Nat} {v : Value} {l : List V8} {k : Nat} (h : OwnAny wq w base v l k) (hb : Below w.heap.size w w1) : OwnAny wq w1 base v l k := by
  obtain ⟨cs, h1, h2, h3⟩ := h
  exact ⟨cs, pw_own_below h1 hb, h2, fun i hi => (h3 i hi)⟩
theorem OwnAny.row {wq w : World} {base : Nat} {v : Value} {l : List V8} (h : OwnAny wq w base v l l.length) (hb : Below wq.heap.size wq w) : ∃ A c, v = .slice A l.length c ∧ l.length ≤ c ∧ AnyRow w A l := by
  obtain ⟨cs, h1, h2, h3⟩ := h
  obtain ⟨A, c, rfl⟩ := own_slice h1
  refine ⟨A, c, by rw [h2], by have := own_le h1; omega, fun i hi => ?_⟩
  obtain ⟨g, cap, e, _⟩ := h1.form (by omega)
  injection e with e1 e2 e3
  subst e1
  refine ⟨_, cs.getD i .nilIface, rfl, h1.cells (g := g) rfl i _ ?_, (h3 i hi).below hb⟩
  rw [List.getD_eq_getElem?_getD, List.getElem?_eq_getElem (by omega)]; simp
theorem OwnAny.nil (wq w : World) (base : Nat) (l : List V8) : OwnAny wq w base (.slice none 0 0) l 0 := ⟨[], own_nil _ _ _ _, rfl, fun i hi => by omega⟩
theorem OwnAny.snoc {wq w : World} {base : Nat} {v : Value} {cs : List Value} {u : Value} {l : List V8} {k : Nat} (h : w.ownsRow base 20 1 v (cs ++ [u]).length (cs ++ [u])) (hk : cs.length = k) (h3 : ∀ i, i < k → AnyR wq (at8 l i) (cs.getD i .nilIface)) (hu : AnyR wq (at8 l k) u) : OwnAny wq w base v l (k + 1) := by
  refine ⟨cs ++ [u], h, by simp [hk], fun i hi => ?_⟩
  by_cases e : i = k
  · subst e; subst hk; simpa using hu
  · have : (cs ++ [u]).getD i Value.nilIface = cs.getD i Value.nilIface := by
      rw [List.getD_eq_getElem?_getD, List.getD_eq_getElem?_getD, List.getElem?_append_left (by omega)]
    rw [this]; exact h3 i (by omega)
theorem info_any : (Tryd.prog.info? 20).map (fun i => (i.zero, i.size, i.bytes)) = some (some .nilIface, 1, 16) := by kernel_rfl
theorem AnyR.iface {w : World} {x : V8} {v : Value} (h : AnyR w x v) : ∃ t y, v = .iface t y := by cases h <;> exact ⟨_, _, rfl⟩
end Go.Proofs.YtinnaiofgbjicaaDoor
namespace Go.Proofs.YtinnaiofgbjicaaDoor
open Go.RowKit Go.Proofs.YtinnaiofgbjicaaDoorW.PrintWords
set_option linter.unusedSimpArgs false
set_option linter.unusedVariables false
set_option maxRecDepth 1000000
def PutYes (w : World) (x : V8) (e : Ending) (w' : World) : Prop := ∃ A n c, e = .returned (.tuple #[.slice A n c, .bool true]) ∧ (n = (putB x).length ∧ n ≤ c) ∧ ReadsInt w' .u8 A n (putB x) ∧ Below w.heap.size w w'
def PutNo (w : World) (e : Ending) (w' : World) : Prop := ∃ A n c, e = .returned (.tuple #[.slice A n c, .bool false]) ∧ Below w.heap.size w w'
theorem PutPost.yes {w w' : World} {k : Int} {x : V8} {e : Ending} (h : PutPost w k x e w') (hk : putOk k x = true) : PutYes w x e w' := by
  obtain ⟨A, n, c, he, hr, hb⟩ := h
  rw [hk] at he
  obtain ⟨h1, h2, h3⟩ := hr hk
  exact ⟨A, n, c, he, ⟨h1, h2⟩, h3, hb⟩
theorem PutPost.not {w w' : World} {k : Int} {x : V8} {e : Ending} (h : PutPost w k x e w') (hk : putOk k x = false) : PutNo w e w' := by
  obtain ⟨A, n, c, he, hr, hb⟩ := h
  rw [hk] at he
  exact ⟨A, n, c, he, hb⟩
def packFrom (f : ByteArray) (l : List V8) : Nat → Option (List Int)
  | 0 => some []
  | k + 1 => match packFrom f l k with
    | none => none
    | some b => if putOk (byN f k) (at8 l k) = true then some (b ++ putB (at8 l k)) else none
theorem putB_len {k : Int} {x : V8} (h : putOk k x = true) : (putB x).length ≤ 4096 := by
  unfold putOk fitI fitS fitR fitB at h
  simp only [decide_eq_true_eq] at h
  unfold putB
  rcases h with ⟨h1, h2⟩ | ⟨h1, rfl, h2⟩ | ⟨h1, rfl, h2, h3, h4, h5⟩ | ⟨h1, rfl, h2⟩
  · rw [if_pos h1]; simp [b4]
  · rw [if_neg (by omega), if_pos h1]; simp [strB, bytesOf_length]; omega
  · rw [if_neg (by omega), if_neg (by omega), if_pos h1]; simp [rectB, b4]
  · rw [if_neg (by omega), if_neg (by omega), if_neg (by omega)]; exact h2
theorem packFrom_len (f : ByteArray) (l : List V8) (k : Nat) : ∀ b, packFrom f l k = some b → b.length ≤ k * 4096 := by
  induction k with
  | zero => intro b h; injection h with h; subst h; simp
  | succ k ih =>
    intro b h
    simp only [packFrom] at h
    cases hp : packFrom f l k with
    | none => rw [hp] at h; cases h
    | some b0 =>
      rw [hp] at h
      simp only at h
      split at h
      · injection h with h; subst h
        have := ih b0 hp
        have := putB_len ‹_›
        rw [List.length_append]; omega
      · cases h
theorem packFrom_yes {f : ByteArray} {l : List V8} {k : Nat} {b : List Int} (h : packFrom f l k = some b) (hp : putOk (byN f k) (at8 l k) = true) : packFrom f l (k + 1) = some (b ++ putB (at8 l k)) := by
  simp only [packFrom, h, hp, if_true]
theorem packFrom_no {f : ByteArray} {l : List V8} {k : Nat} (h : ∃ b, packFrom f l k = some b) (hp : putOk (byN f k) (at8 l k) = false) : packFrom f l (k + 1) = none := by
  obtain ⟨b, h⟩ := h
  simp only [packFrom, h, hp]; simp
theorem packFrom_none {f : ByteArray} {l : List V8} {k : Nat} (h : packFrom f l k = none) : ∀ j, packFrom f l (k + j) = none
  | 0 => h
  | j + 1 => by
    have := packFrom_none h j
    show packFrom f l ((k + j) + 1) = none
    simp only [packFrom, this]
/-- What a list's bytes are, or the error's number. -/
def packP (f : ByteArray) (l : List V8) : Int × List Int :=
  if formP f = true ∧ f.size = l.length then
    match packFrom f l l.length with
    | none => (1, [])
    | some b => if b.length ≤ 4096 then (0, b) else (7, [])
  else (1, [])
def PackPost (w : World) (r : Int × List Int) (e : Ending) (w' : World) : Prop := ∃ A n c, e = .returned (.tuple #[.slice A n c, .int .i64 r.1]) ∧ n = r.2.length ∧ (n ≤ c ∧ (A = none → c = 0) ∧ c ≤ 9223372036854775807) ∧ ReadsInt w' .u8 A n r.2 ∧ Below w.heap.size w w'
theorem own_nilc {w : World} {base n m c : Nat} {e : TypeId} {A : Option Addr} {xs : List Value} (h : w.ownsRow base e 1 (.slice A m c) n xs) : (A = none → c = 0) ∧ c ≤ 9223372036854775807 := by
  rcases h.2 with ⟨he, _⟩ | ⟨g, cap, cur, he, _, _, h1, h2, _⟩
  · injection he with h1 h2 h3
    exact ⟨fun _ => h3, by omega⟩
  · injection he with h3 h4 h5
    exact ⟨fun e => by (rw [h3] at e; cases e), by unfold maxLen at h2; omega⟩
theorem reads_nil (w : World) (A : Option Addr) : ReadsInt w .u8 A 0 [] := ⟨rfl, by omega, fun h => by omega⟩
theorem PackPost.err {w w' : World} {r : Int × List Int} {i : Int} (h : r = (i, [])) (hb : Below w.heap.size w w') : PackPost w r (.returned (.tuple #[.slice none 0 0, .int .i64 i])) w' := by
  subst h; exact ⟨none, 0, 0, rfl, rfl, ⟨Nat.le_refl _, fun _ => rfl, by omega⟩, reads_nil _ _, hb⟩
theorem PackPost.own {w w' : World} {r : Int × List Int} {b : List Int} {v : Value} {base : Nat} (h : r = (0, b)) (ho : w'.ownsRow base 5 1 v b.length (nums .u8 b)) (hb : Below w.heap.size w w') : PackPost w r (.returned (.tuple #[v, .int .i64 0])) w' := by
  subst h
  obtain ⟨A, c, rfl, hr⟩ := own_reads ho
  exact ⟨A, _, c, rfl, rfl, ⟨own_le ho, own_nilc ho⟩, hr, hb⟩
theorem args_Pack (f : ByteArray) (A : Option Addr) (l : List V8) (c : Nat) (w : World) (hc : l.length ≤ c) (hz : f.size ≤ 140737488351232) (hok : AllOk l) (hr : AnyRow w A l) : Calls Tryd.prog 58 #[.string f, .slice A l.length c] w (PackPost w (packP f l)) := by
  have cf := fun w => args_Form f w hz
  cases hf : formP f
  · have hP := Lib.hid (show packP f l = (1, []) from by unfold packP; rw [if_neg (by simp [hf])])
    rw [hf] at cf
    go_enter Tryd.func58, Tryd.ntmps58
    go_wp2_with (first | (go_at_call 65; (with_reducible refine (cf _).mono ?_); rintro e w1 ⟨rfl, hb1⟩; obtain ⟨hc1, hf1⟩ := bcell hb1; have hz1 := hb1.size; (try simp only [World.size_alloc, World.size_setCell, World.size_drew] at hz1)))
    go_ret2
    exact PackPost.err hP.out (by (repeat (first | (with_reducible exact Below.refl _ _) | ((with_reducible refine Below.alloc ?_ ?hB _); (case hB => (first | omega | (simp; done) | (simp; omega)))) | ((with_reducible refine Below.setCell ?_ ?hB _); (case hB => (first | omega | (simp; done) | (simp; omega)))) | (with_reducible refine Below.drew ?_) | ((with_reducible refine below_ext_of ?_ ?hB); (case hB => (first | omega | (simp; done) | (simp; omega)))) | ((with_reducible refine Below.trans ?_ (Below.mono (by assumption) ?hB)); (case hB => (first | omega | (simp; done) | (simp; omega)))))))
  · rw [hf] at cf
    by_cases hs : f.size = l.length
    · have h8 : l.length ≤ 8 := by unfold formP at hf; have := of_decide_eq_true hf; omega
      have hpack : packP f l = (match packFrom f l l.length with | none => (1, []) | some b => if b.length ≤ 4096 then (0, b) else (7, [])) := by unfold packP; rw [if_pos ⟨hf, hs⟩]
      have HP := Lib.hid hpack
      clear hpack
      have hs1 := hs
      go_enter Tryd.func58, Tryd.ntmps58
      go_wp2_with (first | (go_at_call 65; (with_reducible refine (cf _).mono ?_); rintro e w1 ⟨rfl, hb1⟩; obtain ⟨hc1, hf1⟩ := bcell hb1; have hz1 := hb1.size; (try simp only [World.size_alloc, World.size_setCell, World.size_drew] at hz1)))
      obtain ⟨wf, rfl⟩ : ∃ wf, wf = w1 := ⟨_, rfl⟩
      go_loopw [6, 23] (fun v i wr => ∃ (k : Nat) (bl : List Int), k ≤ l.length ∧ i = .int .i64 k ∧ Hid (packFrom f l k = some bl) ∧ wr.ownsRow w.heap.size 5 1 v bl.length (nums .u8 bl) ∧ Below w.heap.size w wr) (fun _ i _ => l.length - (intOf i).toNat)
      case atStart => exact ⟨0, [], by omega, rfl, Lib.hid rfl, own_nilB _ _, by (repeat (first | (with_reducible exact Below.refl _ _) | ((with_reducible refine Below.alloc ?_ ?hB _); (case hB => (first | omega | (simp; done) | (simp; omega)))) | ((with_reducible refine Below.setCell ?_ ?hB _); (case hB => (first | omega | (simp; done) | (simp; omega)))) | (with_reducible refine Below.drew ?_) | ((with_reducible refine below_ext_of ?_ ?hB); (case hB => (first | omega | (simp; done) | (simp; omega)))) | ((with_reducible refine Below.trans ?_ (Below.mono (by assumption) ?hB)); (case hB => (first | omega | (simp; done) | (simp; omega))))))⟩
      case round =>
        obtain ⟨k, bl, hk, rfl, hpf, hown, hbr⟩ := hrel
        clear hb1 hz1 hc1 hf1
        have hlen := packFrom_len f l k bl hpf.out
        have hzr := hbr.size
        by_cases hlt : k < l.length
        · obtain ⟨ad, u, rfl, g0, hu⟩ := hr k hlt
          have g1 := pw_cell_below hbr g0
          have it := fun w => idx_string f k (by omega) w
          have hcp := fun w2 h => args_put (byN f k) (at8 l k) (hok k hlt) u w2 h
          have e : ((f[k]'(by omega)).toNat : Int) = byN f k := byN_at f k (by omega)
          have hu1 := hu.below hbr
          have HU := Lib.hid hu1
          clear g0 hu hu1 hr
          cases hpk : putOk (byN f k) (at8 l k)
          · have hN := Lib.hid (packFrom_none (packFrom_no ⟨bl, hpf.out⟩ hpk) (l.length - (k + 1)))
            have hcn := fun w2 h => (hcp w2 h).mono fun e w' h => PutPost.not h hpk
            have hcn := hcn wr HU.out
            clear hcp
            go_wp2_with (first | (go_at_call 90; (with_reducible refine (hcn).mono ?_); rintro e w3 ⟨A3, n3, c3, rfl, hb3⟩; have hz3 := hb3.size; (try simp only [World.size_alloc, World.size_setCell, World.size_drew] at hz3)))
            go_ret2
            refine PackPost.err ?_ (by (repeat (first | (with_reducible exact Below.refl _ _) | ((with_reducible refine Below.alloc ?_ ?hB _); (case hB => (first | omega | (simp; done) | (simp; omega)))) | ((with_reducible refine Below.setCell ?_ ?hB _); (case hB => (first | omega | (simp; done) | (simp; omega)))) | (with_reducible refine Below.drew ?_) | ((with_reducible refine below_ext_of ?_ ?hB); (case hB => (first | omega | (simp; done) | (simp; omega)))) | ((with_reducible refine Below.trans ?_ (Below.mono (by assumption) ?hB)); (case hB => (first | omega | (simp; done) | (simp; omega)))))))
            rw [HP.out]
            have := hN.out
            rw [show k + 1 + (l.length - (k + 1)) = l.length by omega] at this
            rw [this]
          · have hY := Lib.hid (packFrom_yes hpf.out hpk)
            have hlb := putB_len hpk
            have hcn := fun w2 h => (hcp w2 h).mono fun e w' h => PutPost.yes h hpk
            have hcn := hcn wr HU.out
            clear hcp
            have HQ := Lib.hid hpk
            clear hpk
            go_wp2_with (first | (go_at_call 90; (with_reducible refine (hcn).mono ?_); rintro e w3 ⟨A3, n3, c3, rfl, ⟨rfl, hn3⟩, hr3, hb3⟩; have hz3 := hb3.size; (try simp only [World.size_alloc, World.size_setCell, World.size_drew] at hz3)) | (at_builtin; refine print_append_row (w0 := w) (w.heap.size) rfl _ _ 22 5 .u8 1 rfl Tryd.underlying22 info_u8 (by decide) _ (bl) (putB (at8 l k)) _ _ _ rfl rfl (pw_own_below hown ?_) (ReadsInt.below hr3 ?_) ?_ ?_ ?_ ?_; (focus ((repeat (first | (with_reducible exact Below.refl _ _) | ((with_reducible refine Below.alloc ?_ ?hB _); (case hB => (first | omega | (simp; done) | (simp; omega)))) | ((with_reducible refine Below.setCell ?_ ?hB _); (case hB => (first | omega | (simp; done) | (simp; omega)))) | (with_reducible refine Below.drew ?_) | ((with_reducible refine below_ext_of ?_ ?hB); (case hB => (first | omega | (simp; done) | (simp; omega)))) | ((with_reducible refine Below.trans ?_ (Below.mono (by assumption) ?hB)); (case hB => (first | omega | (simp; done) | (simp; omega)))))); done)); (focus ((repeat (first | (with_reducible exact Below.refl _ _) | ((with_reducible refine Below.alloc ?_ ?hB _); (case hB => (first | omega | (simp; done) | (simp; omega)))) | ((with_reducible refine Below.setCell ?_ ?hB _); (case hB => (first | omega | (simp; done) | (simp; omega)))) | (with_reducible refine Below.drew ?_) | ((with_reducible refine below_ext_of ?_ ?hB); (case hB => (first | omega | (simp; done) | (simp; omega)))) | ((with_reducible refine Below.trans ?_ (Below.mono (by assumption) ?hB)); (case hB => (first | omega | (simp; done) | (simp; omega)))))); done)); (focus ((repeat (first | (with_reducible exact Below.refl _ _) | ((with_reducible refine Below.alloc ?_ ?hB _); (case hB => (first | omega | (simp; done) | (simp; omega)))) | ((with_reducible refine Below.setCell ?_ ?hB _); (case hB => (first | omega | (simp; done) | (simp; omega)))) | (with_reducible refine Below.drew ?_) | ((with_reducible refine below_ext_of ?_ ?hB); (case hB => (first | omega | (simp; done) | (simp; omega)))) | ((with_reducible refine Below.trans ?_ (Below.mono (by assumption) ?hB)); (case hB => (first | omega | (simp; done) | (simp; omega)))))); done)); (focus ((first | omega | (simp; done) | (simp; omega)); done)); (focus ((try simp only [List.length_append, List.length_cons, List.length_nil]); omega)); intro v4 w4 hown4 hb4 _ _; have hz4 := hb4.size; (try simp only [World.size_alloc, World.size_setCell, World.size_drew] at hz4); obtain ⟨hc4, hf4⟩ := bcellB hb4))
            go_roundw
            case rel => exact ⟨k + 1, bl ++ putB (at8 l k), by omega, by go_num, hY, hown4, hb4⟩
            case measure => simp [intOf]; omega
        · obtain rfl : k = l.length := by omega
          obtain ⟨Av, cv, rfl⟩ := own_slice hown
          by_cases hbig : bl.length ≤ 4096
          · have hbig2 : ¬ (bl.length : Int) > 4096 := by omega
            go_wp2_with fail
            go_ret2
            refine PackPost.own ?_ hown (by (repeat (first | (with_reducible exact Below.refl _ _) | ((with_reducible refine Below.alloc ?_ ?hB _); (case hB => (first | omega | (simp; done) | (simp; omega)))) | ((with_reducible refine Below.setCell ?_ ?hB _); (case hB => (first | omega | (simp; done) | (simp; omega)))) | (with_reducible refine Below.drew ?_) | ((with_reducible refine below_ext_of ?_ ?hB); (case hB => (first | omega | (simp; done) | (simp; omega)))) | ((with_reducible refine Below.trans ?_ (Below.mono (by assumption) ?hB)); (case hB => (first | omega | (simp; done) | (simp; omega)))))))
            rw [HP.out, hpf.out]; simp only; rw [if_pos hbig]
          · go_wp2_with fail
            go_ret2
            refine PackPost.err ?_ (by (repeat (first | (with_reducible exact Below.refl _ _) | ((with_reducible refine Below.alloc ?_ ?hB _); (case hB => (first | omega | (simp; done) | (simp; omega)))) | ((with_reducible refine Below.setCell ?_ ?hB _); (case hB => (first | omega | (simp; done) | (simp; omega)))) | (with_reducible refine Below.drew ?_) | ((with_reducible refine below_ext_of ?_ ?hB); (case hB => (first | omega | (simp; done) | (simp; omega)))) | ((with_reducible refine Below.trans ?_ (Below.mono (by assumption) ?hB)); (case hB => (first | omega | (simp; done) | (simp; omega)))))))
            rw [HP.out, hpf.out]; simp only; rw [if_neg hbig]
    · have hP := Lib.hid (show packP f l = (1, []) from by unfold packP; rw [if_neg (by simp [hs])])
      have e1 : ((f.size : Int) != (l.length : Int)) = true := by simp; omega
      go_enter Tryd.func58, Tryd.ntmps58
      go_wp2_with (first | (go_at_call 65; (with_reducible refine (cf _).mono ?_); rintro e w1 ⟨rfl, hb1⟩; obtain ⟨hc1, hf1⟩ := bcell hb1; have hz1 := hb1.size; (try simp only [World.size_alloc, World.size_setCell, World.size_drew] at hz1)))
      go_ret2
      exact PackPost.err hP.out (by (repeat (first | (with_reducible exact Below.refl _ _) | ((with_reducible refine Below.alloc ?_ ?hB _); (case hB => (first | omega | (simp; done) | (simp; omega)))) | ((with_reducible refine Below.setCell ?_ ?hB _); (case hB => (first | omega | (simp; done) | (simp; omega)))) | (with_reducible refine Below.drew ?_) | ((with_reducible refine below_ext_of ?_ ?hB); (case hB => (first | omega | (simp; done) | (simp; omega)))) | ((with_reducible refine Below.trans ?_ (Below.mono (by assumption) ?hB)); (case hB => (first | omega | (simp; done) | (simp; omega)))))))
set_option maxHeartbeats 2000000 in
theorem ref_Pack (f : ByteArray) (A : Option Addr) (l : List V8) (c : Nat) (w : World) (hc : l.length ≤ c) (hz : f.size ≤ 140737488351232) (hok : AllOk l) (hr : VRow w A l) : Calls Tryd.prog 37 #[.string f, .slice A l.length c] w (PackPost w (packP f l)) := by
  have cf := fun w => ref_Form f w hz
  cases hf : formP f
  · have hP := Lib.hid (show packP f l = (1, []) from by unfold packP; rw [if_neg (by simp [hf])])
    rw [hf] at cf
    go_enter Tryd.func37, Tryd.ntmps37
    go_wp2_with (first | (go_at_call 61; (with_reducible refine (cf _).mono ?_); rintro e w1 ⟨rfl, rfl⟩))
    go_ret2
    exact PackPost.err hP.out (by (repeat (first | (with_reducible exact Below.refl _ _) | ((with_reducible refine Below.alloc ?_ ?hB _); (case hB => (first | omega | (simp; done) | (simp; omega)))) | ((with_reducible refine Below.setCell ?_ ?hB _); (case hB => (first | omega | (simp; done) | (simp; omega)))) | (with_reducible refine Below.drew ?_) | ((with_reducible refine below_ext_of ?_ ?hB); (case hB => (first | omega | (simp; done) | (simp; omega)))) | ((with_reducible refine Below.trans ?_ (Below.mono (by assumption) ?hB)); (case hB => (first | omega | (simp; done) | (simp; omega)))))))
  · rw [hf] at cf
    by_cases hs : f.size = l.length
    · have h8 : l.length ≤ 8 := by unfold formP at hf; have := of_decide_eq_true hf; omega
      have hpack : packP f l = (match packFrom f l l.length with | none => (1, []) | some b => if b.length ≤ 4096 then (0, b) else (7, [])) := by unfold packP; rw [if_pos ⟨hf, hs⟩]
      have HP := Lib.hid hpack
      clear hpack
      have hs1 := hs
      go_enter Tryd.func37, Tryd.ntmps37
      go_wp2_with (first | (go_at_call 61; (with_reducible refine (cf _).mono ?_); rintro e w1 ⟨rfl, rfl⟩))
      go_loopw [7, 8] (fun v i wr => ∃ (k : Nat) (bl : List Int), k ≤ l.length ∧ i = .int .i64 k ∧ Hid (packFrom f l k = some bl) ∧ wr.ownsRow w.heap.size 5 1 v bl.length (nums .u8 bl) ∧ Below w.heap.size w wr) (fun _ i _ => l.length - (intOf i).toNat)
      case atStart => exact ⟨0, [], by omega, rfl, Lib.hid rfl, own_nilB _ _, Below.refl _ _⟩
      case round =>
        obtain ⟨k, bl, hk, rfl, hpf, hown, hbr⟩ := hrel
        have hlen := packFrom_len f l k bl hpf.out
        have hzr := hbr.size
        by_cases hlt : k < l.length
        · obtain ⟨ad, Ab, m, rfl, f0, f1, f2, f3, f4, f5, f6, f7, hm, hb⟩ := hr k hlt
          have g0 := pw_cell_below hbr f0; have g1 := pw_cell_below hbr f1; have g2 := pw_cell_below hbr f2; have g3 := pw_cell_below hbr f3
          have g4 := pw_cell_below hbr f4; have g5 := pw_cell_below hbr f5; have g6 := pw_cell_below hbr f6; have g7 := pw_cell_below hbr f7
          clear f0 f1 f2 f3 f4 f5 f6 f7
          have it := fun w => idx_string f k (by omega) w
          have hcp := fun w2 hh => ref_put (byN f k) (at8 l k) (hok k hlt) Ab m w2 hm hh
          have e : ((f[k]'(by omega)).toNat : Int) = byN f k := byN_at f k (by omega)
          have HB := Lib.hid (hb.below hbr)
          clear hb hr
          cases hpk : putOk (byN f k) (at8 l k)
          · have hN := Lib.hid (packFrom_none (packFrom_no ⟨bl, hpf.out⟩ hpk) (l.length - (k + 1)))
            have hcn := fun w2 hh => (hcp w2 hh).mono fun e w' h => PutPost.not h hpk
            clear hcp
            have HQ := Lib.hid hpk
            clear hpk
            go_wp2_with fail
            go_region_with (first | (go_at_call 62; (with_reducible refine (hcn _ ?_).mono ?_); (focus (exact ReadsInt.below HB.out (by (repeat (first | (with_reducible exact Below.refl _ _) | ((with_reducible refine Below.alloc ?_ ?hB _); (case hB => (first | omega | (simp; done) | (simp; omega)))) | ((with_reducible refine Below.setCell ?_ ?hB _); (case hB => (first | omega | (simp; done) | (simp; omega)))) | (with_reducible refine Below.drew ?_) | ((with_reducible refine below_ext_of ?_ ?hB); (case hB => (first | omega | (simp; done) | (simp; omega)))) | ((with_reducible refine Below.trans ?_ (Below.mono (by assumption) ?hB)); (case hB => (first | omega | (simp; done) | (simp; omega))))))))); rintro e w3 ⟨A3, n3, c3, rfl, hb3⟩))
            all_goals
             have hz3 := hb3.size
             (try simp only [World.size_alloc, World.size_setCell, World.size_drew] at hz3)
             go_wp2_with fail
             go_ret2
             refine PackPost.err ?_ (by (repeat (first | (with_reducible exact Below.refl _ _) | ((with_reducible refine Below.alloc ?_ ?hB _); (case hB => (first | omega | (simp; done) | (simp; omega)))) | ((with_reducible refine Below.setCell ?_ ?hB _); (case hB => (first | omega | (simp; done) | (simp; omega)))) | (with_reducible refine Below.drew ?_) | ((with_reducible refine below_ext_of ?_ ?hB); (case hB => (first | omega | (simp; done) | (simp; omega)))) | ((with_reducible refine Below.trans ?_ (Below.mono (by assumption) ?hB)); (case hB => (first | omega | (simp; done) | (simp; omega)))))))
             rw [HP.out]
             have := hN.out
             rw [show k + 1 + (l.length - (k + 1)) = l.length by omega] at this
             rw [this]
          · have hY := Lib.hid (packFrom_yes hpf.out hpk)
            have hlb := putB_len hpk
            have hcn := fun w2 hh => (hcp w2 hh).mono fun e w' h => PutPost.yes h hpk
            clear hcp
            have HQ := Lib.hid hpk
            clear hpk
            go_wp2_with fail
            go_region_with (first | (go_at_call 62; (with_reducible refine (hcn _ ?_).mono ?_); (focus (exact ReadsInt.below HB.out (by (repeat (first | (with_reducible exact Below.refl _ _) | ((with_reducible refine Below.alloc ?_ ?hB _); (case hB => (first | omega | (simp; done) | (simp; omega)))) | ((with_reducible refine Below.setCell ?_ ?hB _); (case hB => (first | omega | (simp; done) | (simp; omega)))) | (with_reducible refine Below.drew ?_) | ((with_reducible refine below_ext_of ?_ ?hB); (case hB => (first | omega | (simp; done) | (simp; omega)))) | ((with_reducible refine Below.trans ?_ (Below.mono (by assumption) ?hB)); (case hB => (first | omega | (simp; done) | (simp; omega))))))))); rintro e w3 ⟨A3, n3, c3, rfl, ⟨rfl, hn3⟩, hr3, hb3⟩))
            all_goals
             have hz3 := hb3.size
             (try simp only [World.size_alloc, World.size_setCell, World.size_drew] at hz3)
             go_wp2_with (first | (at_builtin; refine print_append_row (w0 := w) (w.heap.size) rfl _ _ 22 5 .u8 1 rfl Tryd.underlying22 info_u8 (by decide) _ (bl) (putB (at8 l k)) _ _ _ rfl rfl (pw_own_below hown ?_) (ReadsInt.below hr3 ?_) ?_ ?_ ?_ ?_; (focus ((repeat (first | (with_reducible exact Below.refl _ _) | ((with_reducible refine Below.alloc ?_ ?hB _); (case hB => (first | omega | (simp; done) | (simp; omega)))) | ((with_reducible refine Below.setCell ?_ ?hB _); (case hB => (first | omega | (simp; done) | (simp; omega)))) | (with_reducible refine Below.drew ?_) | ((with_reducible refine below_ext_of ?_ ?hB); (case hB => (first | omega | (simp; done) | (simp; omega)))) | ((with_reducible refine Below.trans ?_ (Below.mono (by assumption) ?hB)); (case hB => (first | omega | (simp; done) | (simp; omega)))))); done)); (focus ((repeat (first | (with_reducible exact Below.refl _ _) | ((with_reducible refine Below.alloc ?_ ?hB _); (case hB => (first | omega | (simp; done) | (simp; omega)))) | ((with_reducible refine Below.setCell ?_ ?hB _); (case hB => (first | omega | (simp; done) | (simp; omega)))) | (with_reducible refine Below.drew ?_) | ((with_reducible refine below_ext_of ?_ ?hB); (case hB => (first | omega | (simp; done) | (simp; omega)))) | ((with_reducible refine Below.trans ?_ (Below.mono (by assumption) ?hB)); (case hB => (first | omega | (simp; done) | (simp; omega)))))); done)); (focus ((repeat (first | (with_reducible exact Below.refl _ _) | ((with_reducible refine Below.alloc ?_ ?hB _); (case hB => (first | omega | (simp; done) | (simp; omega)))) | ((with_reducible refine Below.setCell ?_ ?hB _); (case hB => (first | omega | (simp; done) | (simp; omega)))) | (with_reducible refine Below.drew ?_) | ((with_reducible refine below_ext_of ?_ ?hB); (case hB => (first | omega | (simp; done) | (simp; omega)))) | ((with_reducible refine Below.trans ?_ (Below.mono (by assumption) ?hB)); (case hB => (first | omega | (simp; done) | (simp; omega)))))); done)); (focus ((first | omega | (simp; done) | (simp; omega)); done)); (focus ((try simp only [List.length_append, List.length_cons, List.length_nil]); omega)); intro v4 w4 hown4 hb4 _ _; have hz4 := hb4.size; (try simp only [World.size_alloc, World.size_setCell, World.size_drew] at hz4); obtain ⟨hc4, hf4⟩ := bcellB hb4))
             go_roundw
             case rel => exact ⟨k + 1, bl ++ putB (at8 l k), by omega, by go_num, hY, hown4, hb4⟩
             case measure => simp [intOf]; omega
        · obtain rfl : k = l.length := by omega
          obtain ⟨Av, cv, rfl⟩ := own_slice hown
          by_cases hbig : bl.length ≤ 4096
          · have hbig2 : ¬ (bl.length : Int) > 4096 := by omega
            go_wp2_with fail
            go_ret2
            refine PackPost.own ?_ hown (by (repeat (first | (with_reducible exact Below.refl _ _) | ((with_reducible refine Below.alloc ?_ ?hB _); (case hB => (first | omega | (simp; done) | (simp; omega)))) | ((with_reducible refine Below.setCell ?_ ?hB _); (case hB => (first | omega | (simp; done) | (simp; omega)))) | (with_reducible refine Below.drew ?_) | ((with_reducible refine below_ext_of ?_ ?hB); (case hB => (first | omega | (simp; done) | (simp; omega)))) | ((with_reducible refine Below.trans ?_ (Below.mono (by assumption) ?hB)); (case hB => (first | omega | (simp; done) | (simp; omega)))))))
            rw [HP.out, hpf.out]; simp only; rw [if_pos hbig]
          · go_wp2_with fail
            go_ret2
            refine PackPost.err ?_ (by (repeat (first | (with_reducible exact Below.refl _ _) | ((with_reducible refine Below.alloc ?_ ?hB _); (case hB => (first | omega | (simp; done) | (simp; omega)))) | ((with_reducible refine Below.setCell ?_ ?hB _); (case hB => (first | omega | (simp; done) | (simp; omega)))) | (with_reducible refine Below.drew ?_) | ((with_reducible refine below_ext_of ?_ ?hB); (case hB => (first | omega | (simp; done) | (simp; omega)))) | ((with_reducible refine Below.trans ?_ (Below.mono (by assumption) ?hB)); (case hB => (first | omega | (simp; done) | (simp; omega)))))))
            rw [HP.out, hpf.out]; simp only; rw [if_neg hbig]
    · have hP := Lib.hid (show packP f l = (1, []) from by unfold packP; rw [if_neg (by simp [hs])])
      have e1 : ((f.size : Int) != (l.length : Int)) = true := by simp; omega
      go_enter Tryd.func37, Tryd.ntmps37
      go_wp2_with (first | (go_at_call 61; (with_reducible refine (cf _).mono ?_); rintro e w1 ⟨rfl, rfl⟩))
      go_ret2
      exact PackPost.err hP.out (by (repeat (first | (with_reducible exact Below.refl _ _) | ((with_reducible refine Below.alloc ?_ ?hB _); (case hB => (first | omega | (simp; done) | (simp; omega)))) | ((with_reducible refine Below.setCell ?_ ?hB _); (case hB => (first | omega | (simp; done) | (simp; omega)))) | (with_reducible refine Below.drew ?_) | ((with_reducible refine below_ext_of ?_ ?hB); (case hB => (first | omega | (simp; done) | (simp; omega)))) | ((with_reducible refine Below.trans ?_ (Below.mono (by assumption) ?hB)); (case hB => (first | omega | (simp; done) | (simp; omega)))))))
end Go.Proofs.YtinnaiofgbjicaaDoor
