/- The message of an event, walked. -/
import Derived.Test.YtinnaiofgbjicaaDoorEvC
import Derived.Test.YtinnaiofgbjicaaDoorUnpD
namespace Go.Proofs.YtinnaiofgbjicaaDoor
open Go.RowKit Go.Proofs.YtinnaiofgbjicaaDoorW.PrintWords
set_option linter.unusedSimpArgs false
set_option linter.unusedVariables false
set_option maxRecDepth 1000000
def bodyE (e : E4) : List Int := catB (argsE e) (argsE e).length
/-- May an event be? -/
def mayE (e : E4) : Bool := decide (0 ≤ e.k ∧ e.k ≤ 5 ∧ packP (formE e.k) (argsE e) = (0, bodyE e) ∧ mayM (128 + e.k) e.id (bodyE e).length = true ∧ (1 < (formE e.k).size ∨ e.b = 0) ∧ (0 < (formE e.k).size ∨ e.a = 0) ∧ (e.k ≤ 1 → 1 ≤ e.a ∧ e.a ≤ 12 ∧ e.b ≤ 255))
def MsgP (w : World) (e : E4) (en : Ending) (w' : World) : Prop := ∃ op id A n c, en = .returned (.tuple #[(.agg #[.int .i64 (op), .int .i64 (id), .slice (A) (n) (c)]), .bool (mayE e)]) ∧ (mayE e = true → op = 128 + e.k ∧ id = e.id ∧ n = (bodyE e).length ∧ BS w' A (bodyE e) c) ∧ Below w.heap.size w w'
theorem MsgP.yes {w w' : World} {e : E4} {A : Option Addr} {c : Nat} (h : mayE e = true) (hs : BS w' A (bodyE e) c) (hb : Below w.heap.size w w') : MsgP w e (.returned (.tuple #[(.agg #[.int .i64 ((128 + e.k)), .int .i64 (e.id), .slice (A) ((bodyE e).length) (c)]), .bool true])) w' :=
  ⟨_, _, A, _, c, by rw [h], fun _ => ⟨rfl, rfl, rfl, hs⟩, hb⟩
theorem MsgP.no {w w' : World} {e : E4} {op id : Int} {A : Option Addr} {n c : Nat} (h : mayE e = false) (hb : Below w.heap.size w w') : MsgP w e (.returned (.tuple #[(.agg #[.int .i64 (op), .int .i64 (id), .slice (A) (n) (c)]), .bool false])) w' :=
  ⟨op, id, A, n, c, by rw [h], fun h' => Bool.noConfusion (h.symm.trans h'), hb⟩
def PackN (w : World) (e : Ending) (w' : World) : Prop := ∃ A n c, e = .returned (.tuple #[.slice A n c, .int .i64 1]) ∧ n ≤ 9223372036854775807 ∧ Below w.heap.size w w'
theorem args_PackN (f : ByteArray) (A : Option Addr) (l : List V8) (c : Nat) (w : World) (hb : packP f l = (1, [])) (hc : l.length ≤ c) (hz : f.size ≤ 140737488351232) (hok : AllOk l) (hr : AnyRow w A l) : Calls Tryd.prog 58 #[.string f, .slice A l.length c] w (PackN w) := by
  refine (args_Pack f A l c w hc hz hok hr).mono fun e w' ⟨A', n, c', he, hn, ⟨h1, h2, h3⟩, hrd, hbel⟩ => ?_
  rw [hb] at he
  exact ⟨A', n, c', he, by omega, hbel⟩
theorem pack_two (e : E4) : packP (formE e.k) (argsE e) = (0, bodyE e) ∨ packP (formE e.k) (argsE e) = (1, []) := by
  have hn : ∀ l : List V8, l.length ≤ 2 → (∀ x ∈ l, ∃ n, x = vI n) → ∀ f : ByteArray, (packP f l = (0, catB l l.length) ∨ packP f l = (1, [])) := fun l hl hx f => by
    have hlen : ∀ i, i < l.length → (putB (at8 l i)).length ≤ 21 := fun i hi => by
      obtain ⟨n, e⟩ := hx _ (at8_mem hi)
      rw [e, putB0 rfl]; simp [b4]
    by_cases hf : formP f = true ∧ f.size = l.length
    · by_cases hp : ∀ i, i < l.length → putOk (byN f i) (at8 l i) = true
      · exact .inl (pack_ok hf.1 hf.2 fun i hi => ⟨hp i hi, hlen i hi⟩)
      · right
        unfold packP; rw [if_pos hf]
        have : packFrom f l l.length = none := by
          obtain ⟨i, hi⟩ := Classical.not_forall.1 hp
          have hi' := Classical.not_imp.1 hi
          have key : ∀ k, i < k → packFrom f l k = none := by
            intro k
            induction k with
            | zero => intro h; omega
            | succ k ih =>
              intro h
              by_cases e : i = k
              · subst e
                unfold packFrom
                split
                · rfl
                · rw [if_neg hi'.2]
              · unfold packFrom; rw [ih (by omega)]
          exact key _ hi'.1
        rw [this]
    · right; unfold packP; rw [if_neg hf]
  exact hn _ (by unfold argsE; simp; omega) (fun x hx => by
    have := List.mem_of_mem_take hx
    simp only [List.mem_cons, List.not_mem_nil, or_false] at this
    rcases this with rfl | rfl
    · exact ⟨_, rfl⟩
    · exact ⟨_, rfl⟩) _
theorem vI_ok (n : Int) (h : -9223372036854775808 ≤ n ∧ n ≤ 9223372036854775807) : (vI n).Ok := ⟨by show -9223372036854775808 ≤ (0 : Int) ∧ (0 : Int) ≤ 9223372036854775807; omega, h, by show (0 : Nat) ≤ _; omega, by show -9223372036854775808 ≤ (0 : Int) ∧ (0 : Int) ≤ 9223372036854775807; omega, by show -9223372036854775808 ≤ (0 : Int) ∧ (0 : Int) ≤ 9223372036854775807; omega, by show -9223372036854775808 ≤ (0 : Int) ∧ (0 : Int) ≤ 9223372036854775807; omega, by show -9223372036854775808 ≤ (0 : Int) ∧ (0 : Int) ≤ 9223372036854775807; omega, by show (0 : Nat) ≤ _; omega⟩
theorem argsE_mem {e : E4} {i : Nat} (h : i < (argsE e).length) : at8 (argsE e) i = vI e.a ∨ at8 (argsE e) i = vI e.b := by
  have h1 := at8_mem h
  have h2 := List.mem_of_mem_take h1
  simpa using h2
theorem argsE_ok {e : E4} (hb : e.Bd) : AllOk (argsE e) := fun i hi => by
  rcases argsE_mem hi with h | h
  · rw [h]; exact vI_ok _ hb.a
  · rw [h]; exact vI_ok _ hb.b
theorem bodyE_byt (e : E4) : Byt (bodyE e) := catB_byt (fun i => by
  by_cases hi : i < (argsE e).length
  · rcases argsE_mem hi with h | h
    · rw [h]; exact Byt.nil
    · rw [h]; exact Byt.nil
  · rw [at8_out _ _ hi]; exact Byt.nil) _
theorem argsE_len (e : E4) : (argsE e).length ≤ 2 := by unfold argsE; simp; omega
theorem bodyE_len (e : E4) : (bodyE e).length ≤ 42 := by
  have := catB_len (argsE e) (argsE e).length 21 (fun i hi => by
    rcases argsE_mem hi with h | h
    · rw [h, putB0 rfl]; simp [b4]
    · rw [h, putB0 rfl]; simp [b4])
  have h2 := argsE_len e
  have : (argsE e).length * 21 ≤ 2 * 21 := Nat.mul_le_mul_right _ h2
  unfold bodyE; omega
theorem formE_len (k : Int) : (formE k).size ≤ 2 := by unfold formE; split <;> (try split) <;> (try split) <;> decide
theorem msg_not (e : E4) (w : World) (h : isE e.k = false) : Calls Tryd.prog 86 #[(.agg #[.int .i64 (e).k, .int .i64 (e).id, .int .i64 (e).a, .int .i64 (e).b])] w (MsgP w e) := by
  have H := Lib.hid (show mayE e = false from decide_eq_false (fun h2 => by have := of_decide_eq_false h; omega))
  have ci := fun w => ev_is e.k w
  rw [h] at ci
  clear h
  generalize hM : MsgP w e = M
  have HM := Lib.hid hM
  clear hM
  go_enter Tryd.func86, Tryd.ntmps86
  go_wp2_with (first | (go_at_call 49; (with_reducible refine (ci _).mono ?_); rintro e w1 ⟨rfl, rfl⟩))
  refine bodyPost_ret (v := .tuple #[(.agg #[.int .i64 (0), .int .i64 (0), .slice (none) (0) (0)]), .bool false]) (by simp [results, Tryd.results86, go_sem, ↓IntWalk.iteOmega, *]) rfl ?_
  rw [← HM.out]
  exact MsgP.no H.out (by (repeat (first | (with_reducible exact Below.refl _ _) | ((with_reducible refine Below.alloc ?_ ?hB _); (case hB => (first | omega | (simp; done) | (simp; omega)))) | ((with_reducible refine Below.setCell ?_ ?hB _); (case hB => (first | omega | (simp; done) | (simp; omega)))) | (with_reducible refine Below.drew ?_) | ((with_reducible refine below_ext_of ?_ ?hB); (case hB => (first | omega | (simp; done) | (simp; omega)))) | ((with_reducible refine Below.trans ?_ (Below.mono (by assumption) ?hB)); (case hB => (first | omega | (simp; done) | (simp; omega)))))))
theorem msg_pack (e : E4) (w : World) (hbd : e.Bd) (h0 : 0 ≤ e.k ∧ e.k ≤ 5) (hp : packP (formE e.k) (argsE e) = (1, [])) : Calls Tryd.prog 86 #[(.agg #[.int .i64 (e).k, .int .i64 (e).id, .int .i64 (e).a, .int .i64 (e).b])] w (MsgP w e) := by
  have H := Lib.hid (show mayE e = false from decide_eq_false (fun h2 => by rw [hp] at h2; have := congrArg Prod.fst h2.2.2.1; simp at this))
  have ci := fun w => ev_is e.k w
  rw [show isE e.k = true from decide_eq_true h0] at ci
  have cf := fun w => ev_form e.k w h0
  have cn := fun w => ev_numbers e w h0
  have hfl := formE_len e.k
  have cp := fun A c w h1 h2 => args_PackN (formE e.k) A (argsE e) c w hp h1 (by omega) (argsE_ok hbd) h2
  obtain ⟨i1, i2⟩ := hbd.k
  obtain ⟨l1, l2⟩ := h0
  obtain ⟨l, hl⟩ : ∃ l, argsE e = l := ⟨_, rfl⟩
  obtain ⟨f, hf⟩ : ∃ f, formE e.k = f := ⟨_, rfl⟩
  rw [hl] at cn cp
  rw [hf] at cf cp
  clear hl hf hp hbd
  have k01 : e.k = 0 ∨ e.k = 1 ∨ (¬ e.k = 0 ∧ ¬ e.k = 1) := by omega
  generalize hM : MsgP w e = M
  have HM := Lib.hid hM
  clear hM
  obtain ⟨k, id, a, b⟩ := e
  simp only at *
  rcases k01 with rfl | rfl | ⟨k0, k1⟩
  · go_enter Tryd.func86, Tryd.ntmps86
    go_wp2_with (first | (go_at_call 49; (with_reducible refine (ci _).mono ?_); rintro e w1 ⟨rfl, rfl⟩) | (go_at_call 50; (with_reducible refine (cf _).mono ?_); rintro en w1 ⟨rfl, hb1⟩; obtain ⟨hc1, hf1⟩ := bcell hb1; have hz1 := hb1.size; (try simp only [World.size_alloc, World.size_setCell, World.size_drew] at hz1)) | (go_at_call 52; (with_reducible refine (cn _).mono ?_); rintro en w2 ⟨A2, c2, rfl, hr2, hb2⟩; obtain ⟨hc2, hf2⟩ := bcell hb2; have hz2 := hb2.size; replace hr2 := Lib.hid hr2; (try simp only [World.size_alloc, World.size_setCell, World.size_drew] at hz2)) | (go_at_call 58; (with_reducible refine (cp _ _ _ hr2.out.1 hr2.out.2).mono ?_); rintro en w3 ⟨A3, n3, c3, rfl, hn3, hb3⟩; obtain ⟨hc3, hf3⟩ := bcell hb3; have hz3 := hb3.size; (try simp only [World.size_alloc, World.size_setCell, World.size_drew] at hz3)))
    refine bodyPost_ret (v := .tuple #[(.agg #[.int .i64 (128), .int .i64 (id), .slice (A3) (n3) (c3)]), .bool false]) (by simp [results, Tryd.results86, go_sem, ↓IntWalk.iteOmega, *]) rfl ?_
    rw [← HM.out]
    exact MsgP.no H.out (by (repeat (first | (with_reducible exact Below.refl _ _) | ((with_reducible refine Below.alloc ?_ ?hB _); (case hB => (first | omega | (simp; done) | (simp; omega)))) | ((with_reducible refine Below.setCell ?_ ?hB _); (case hB => (first | omega | (simp; done) | (simp; omega)))) | (with_reducible refine Below.drew ?_) | ((with_reducible refine below_ext_of ?_ ?hB); (case hB => (first | omega | (simp; done) | (simp; omega)))) | ((with_reducible refine Below.trans ?_ (Below.mono (by assumption) ?hB)); (case hB => (first | omega | (simp; done) | (simp; omega)))))))
  · go_enter Tryd.func86, Tryd.ntmps86
    go_wp2_with (first | (go_at_call 49; (with_reducible refine (ci _).mono ?_); rintro e w1 ⟨rfl, rfl⟩) | (go_at_call 50; (with_reducible refine (cf _).mono ?_); rintro en w1 ⟨rfl, hb1⟩; obtain ⟨hc1, hf1⟩ := bcell hb1; have hz1 := hb1.size; (try simp only [World.size_alloc, World.size_setCell, World.size_drew] at hz1)) | (go_at_call 52; (with_reducible refine (cn _).mono ?_); rintro en w2 ⟨A2, c2, rfl, hr2, hb2⟩; obtain ⟨hc2, hf2⟩ := bcell hb2; have hz2 := hb2.size; replace hr2 := Lib.hid hr2; (try simp only [World.size_alloc, World.size_setCell, World.size_drew] at hz2)) | (go_at_call 58; (with_reducible refine (cp _ _ _ hr2.out.1 hr2.out.2).mono ?_); rintro en w3 ⟨A3, n3, c3, rfl, hn3, hb3⟩; obtain ⟨hc3, hf3⟩ := bcell hb3; have hz3 := hb3.size; (try simp only [World.size_alloc, World.size_setCell, World.size_drew] at hz3)))
    refine bodyPost_ret (v := .tuple #[(.agg #[.int .i64 (129), .int .i64 (id), .slice (A3) (n3) (c3)]), .bool false]) (by simp [results, Tryd.results86, go_sem, ↓IntWalk.iteOmega, *]) rfl ?_
    rw [← HM.out]
    exact MsgP.no H.out (by (repeat (first | (with_reducible exact Below.refl _ _) | ((with_reducible refine Below.alloc ?_ ?hB _); (case hB => (first | omega | (simp; done) | (simp; omega)))) | ((with_reducible refine Below.setCell ?_ ?hB _); (case hB => (first | omega | (simp; done) | (simp; omega)))) | (with_reducible refine Below.drew ?_) | ((with_reducible refine below_ext_of ?_ ?hB); (case hB => (first | omega | (simp; done) | (simp; omega)))) | ((with_reducible refine Below.trans ?_ (Below.mono (by assumption) ?hB)); (case hB => (first | omega | (simp; done) | (simp; omega)))))))
  · have q0 : (k == 0) = false := by simp [k0]
    have q1 : (k == 1) = false := by simp [k1]
    go_enter Tryd.func86, Tryd.ntmps86
    go_wp2_with (first | (go_at_call 49; (with_reducible refine (ci _).mono ?_); rintro e w1 ⟨rfl, rfl⟩) | (go_at_call 50; (with_reducible refine (cf _).mono ?_); rintro en w1 ⟨rfl, hb1⟩; obtain ⟨hc1, hf1⟩ := bcell hb1; have hz1 := hb1.size; (try simp only [World.size_alloc, World.size_setCell, World.size_drew] at hz1)) | (go_at_call 52; (with_reducible refine (cn _).mono ?_); rintro en w2 ⟨A2, c2, rfl, hr2, hb2⟩; obtain ⟨hc2, hf2⟩ := bcell hb2; have hz2 := hb2.size; replace hr2 := Lib.hid hr2; (try simp only [World.size_alloc, World.size_setCell, World.size_drew] at hz2)) | (go_at_call 58; (with_reducible refine (cp _ _ _ hr2.out.1 hr2.out.2).mono ?_); rintro en w3 ⟨A3, n3, c3, rfl, hn3, hb3⟩; obtain ⟨hc3, hf3⟩ := bcell hb3; have hz3 := hb3.size; (try simp only [World.size_alloc, World.size_setCell, World.size_drew] at hz3)))
    refine bodyPost_ret (v := .tuple #[(.agg #[.int .i64 ((128 + k)), .int .i64 (id), .slice (A3) (n3) (c3)]), .bool false]) (by simp [results, Tryd.results86, go_sem, ↓IntWalk.iteOmega, *]) rfl ?_
    rw [← HM.out]
    exact MsgP.no H.out (by (repeat (first | (with_reducible exact Below.refl _ _) | ((with_reducible refine Below.alloc ?_ ?hB _); (case hB => (first | omega | (simp; done) | (simp; omega)))) | ((with_reducible refine Below.setCell ?_ ?hB _); (case hB => (first | omega | (simp; done) | (simp; omega)))) | (with_reducible refine Below.drew ?_) | ((with_reducible refine below_ext_of ?_ ?hB); (case hB => (first | omega | (simp; done) | (simp; omega)))) | ((with_reducible refine Below.trans ?_ (Below.mono (by assumption) ?hB)); (case hB => (first | omega | (simp; done) | (simp; omega)))))))
/-- Behind the bytes: what else may not be. -/
def mayB (e : E4) : Bool := decide (mayM (128 + e.k) e.id (bodyE e).length = true ∧ (1 < (formE e.k).size ∨ e.b = 0) ∧ (0 < (formE e.k).size ∨ e.a = 0) ∧ (e.k ≤ 1 → 1 ≤ e.a ∧ e.a ≤ 12 ∧ e.b ≤ 255))
theorem mayB_eq (e : E4) (h0 : 0 ≤ e.k ∧ e.k ≤ 5) (hp : packP (formE e.k) (argsE e) = (0, bodyE e)) : mayE e = mayB e := by
  unfold mayE mayB
  exact decide_eq_decide.2 ⟨fun h => h.2.2.2, fun h => ⟨h0.1, h0.2, hp, h⟩⟩
theorem msg_may (e : E4) (w : World) (hbd : e.Bd) (h0 : 0 ≤ e.k ∧ e.k ≤ 5) (hp : packP (formE e.k) (argsE e) = (0, bodyE e)) (hm : mayM (128 + e.k) e.id (bodyE e).length = false) : Calls Tryd.prog 86 #[(.agg #[.int .i64 (e).k, .int .i64 (e).id, .int .i64 (e).a, .int .i64 (e).b])] w (MsgP w e) := by
  have H := Lib.hid (show mayE e = false from decide_eq_false (fun h2 => by rw [hm] at h2; exact Bool.noConfusion h2.2.2.2.1))
  have ci := fun w => ev_is e.k w; rw [show isE e.k = true from decide_eq_true h0] at ci; have cf := fun w => ev_form e.k w h0; have cn := fun w => ev_numbers e w h0; have hfl := formE_len e.k; have cp := fun A c w h1 h2 => args_PackB (formE e.k) A (argsE e) c w (bodyE e) (bodyE_byt e) hp h1 (by omega) (argsE_ok hbd) h2; have hbl := bodyE_len e; have cm := fun A c w => frame_May (128 + e.k) e.id A (bodyE e).length c w (by omega)
  rw [hm] at cm
  obtain ⟨i1, i2⟩ := hbd.k
  obtain ⟨l1, l2⟩ := h0
  obtain ⟨l, hl⟩ : ∃ l, argsE e = l := ⟨_, rfl⟩
  obtain ⟨f, hf⟩ : ∃ f, formE e.k = f := ⟨_, rfl⟩
  obtain ⟨bb, hbb⟩ : ∃ b, bodyE e = b := ⟨_, rfl⟩
  rw [hl] at cn cp
  rw [hf] at cf cp
  rw [hbb] at cp cm
  unfold PackB at cp
  clear hl hf hp hbd hbb hm
  have k01 : e.k = 0 ∨ e.k = 1 ∨ (¬ e.k = 0 ∧ ¬ e.k = 1) := by omega
  generalize hM : MsgP w e = M
  have HM := Lib.hid hM
  clear hM
  obtain ⟨k, id, a, b⟩ := e
  simp only at *
  rcases k01 with rfl | rfl | ⟨k0, k1⟩
  · have cm : ∀ A c w, Calls Tryd.prog 44 #[(.agg #[.int .i64 (128), .int .i64 (id), .slice (A) (bb.length) (c)])] w fun e w' => e = .returned (.bool false) ∧ Below w.heap.size w w' := cm
    go_enter Tryd.func86, Tryd.ntmps86
    go_wp2_with (first | (go_at_call 49; (with_reducible refine (ci _).mono ?_); rintro e w1 ⟨rfl, rfl⟩) | (go_at_call 50; (with_reducible refine (cf _).mono ?_); rintro en w1 ⟨rfl, hb1⟩; obtain ⟨hc1, hf1⟩ := bcell hb1; have hz1 := hb1.size; (try simp only [World.size_alloc, World.size_setCell, World.size_drew] at hz1)) | (go_at_call 52; (with_reducible refine (cn _).mono ?_); rintro en w2 ⟨A2, c2, rfl, hr2, hb2⟩; obtain ⟨hc2, hf2⟩ := bcell hb2; have hz2 := hb2.size; replace hr2 := Lib.hid hr2; (try simp only [World.size_alloc, World.size_setCell, World.size_drew] at hz2)) | (go_at_call 58; (with_reducible refine (cp _ _ _ hr2.out.1 hr2.out.2).mono ?_); rintro en w3 ⟨A3, c3, rfl, hs3, hb3⟩; obtain ⟨hc3, hf3⟩ := bcell hb3; have hz3 := hb3.size; replace hs3 := Lib.hid hs3; (try simp only [World.size_alloc, World.size_setCell, World.size_drew] at hz3)) | (go_at_call 44; (with_reducible refine (cm _ _ _).mono ?_); rintro en w4 ⟨rfl, hb4⟩; obtain ⟨hc4, hf4⟩ := bcell hb4; have hz4 := hb4.size; (try simp only [World.size_alloc, World.size_setCell, World.size_drew] at hz4)))
    refine bodyPost_ret (v := .tuple #[(.agg #[.int .i64 (128), .int .i64 (id), .slice (A3) (bb.length) (c3)]), .bool false]) (by simp [results, Tryd.results86, go_sem, ↓IntWalk.iteOmega, *]) rfl ?_
    rw [← HM.out]
    exact MsgP.no H.out (by (repeat (first | (with_reducible exact Below.refl _ _) | ((with_reducible refine Below.alloc ?_ ?hB _); (case hB => (first | omega | (simp; done) | (simp; omega)))) | ((with_reducible refine Below.setCell ?_ ?hB _); (case hB => (first | omega | (simp; done) | (simp; omega)))) | (with_reducible refine Below.drew ?_) | ((with_reducible refine below_ext_of ?_ ?hB); (case hB => (first | omega | (simp; done) | (simp; omega)))) | ((with_reducible refine Below.trans ?_ (Below.mono (by assumption) ?hB)); (case hB => (first | omega | (simp; done) | (simp; omega)))))))
  · have cm : ∀ A c w, Calls Tryd.prog 44 #[(.agg #[.int .i64 (129), .int .i64 (id), .slice (A) (bb.length) (c)])] w fun e w' => e = .returned (.bool false) ∧ Below w.heap.size w w' := cm
    go_enter Tryd.func86, Tryd.ntmps86
    go_wp2_with (first | (go_at_call 49; (with_reducible refine (ci _).mono ?_); rintro e w1 ⟨rfl, rfl⟩) | (go_at_call 50; (with_reducible refine (cf _).mono ?_); rintro en w1 ⟨rfl, hb1⟩; obtain ⟨hc1, hf1⟩ := bcell hb1; have hz1 := hb1.size; (try simp only [World.size_alloc, World.size_setCell, World.size_drew] at hz1)) | (go_at_call 52; (with_reducible refine (cn _).mono ?_); rintro en w2 ⟨A2, c2, rfl, hr2, hb2⟩; obtain ⟨hc2, hf2⟩ := bcell hb2; have hz2 := hb2.size; replace hr2 := Lib.hid hr2; (try simp only [World.size_alloc, World.size_setCell, World.size_drew] at hz2)) | (go_at_call 58; (with_reducible refine (cp _ _ _ hr2.out.1 hr2.out.2).mono ?_); rintro en w3 ⟨A3, c3, rfl, hs3, hb3⟩; obtain ⟨hc3, hf3⟩ := bcell hb3; have hz3 := hb3.size; replace hs3 := Lib.hid hs3; (try simp only [World.size_alloc, World.size_setCell, World.size_drew] at hz3)) | (go_at_call 44; (with_reducible refine (cm _ _ _).mono ?_); rintro en w4 ⟨rfl, hb4⟩; obtain ⟨hc4, hf4⟩ := bcell hb4; have hz4 := hb4.size; (try simp only [World.size_alloc, World.size_setCell, World.size_drew] at hz4)))
    refine bodyPost_ret (v := .tuple #[(.agg #[.int .i64 (129), .int .i64 (id), .slice (A3) (bb.length) (c3)]), .bool false]) (by simp [results, Tryd.results86, go_sem, ↓IntWalk.iteOmega, *]) rfl ?_
    rw [← HM.out]
    exact MsgP.no H.out (by (repeat (first | (with_reducible exact Below.refl _ _) | ((with_reducible refine Below.alloc ?_ ?hB _); (case hB => (first | omega | (simp; done) | (simp; omega)))) | ((with_reducible refine Below.setCell ?_ ?hB _); (case hB => (first | omega | (simp; done) | (simp; omega)))) | (with_reducible refine Below.drew ?_) | ((with_reducible refine below_ext_of ?_ ?hB); (case hB => (first | omega | (simp; done) | (simp; omega)))) | ((with_reducible refine Below.trans ?_ (Below.mono (by assumption) ?hB)); (case hB => (first | omega | (simp; done) | (simp; omega)))))))
  · have q0 : (k == 0) = false := by simp [k0]
    have q1 : (k == 1) = false := by simp [k1]
    go_enter Tryd.func86, Tryd.ntmps86
    go_wp2_with (first | (go_at_call 49; (with_reducible refine (ci _).mono ?_); rintro e w1 ⟨rfl, rfl⟩) | (go_at_call 50; (with_reducible refine (cf _).mono ?_); rintro en w1 ⟨rfl, hb1⟩; obtain ⟨hc1, hf1⟩ := bcell hb1; have hz1 := hb1.size; (try simp only [World.size_alloc, World.size_setCell, World.size_drew] at hz1)) | (go_at_call 52; (with_reducible refine (cn _).mono ?_); rintro en w2 ⟨A2, c2, rfl, hr2, hb2⟩; obtain ⟨hc2, hf2⟩ := bcell hb2; have hz2 := hb2.size; replace hr2 := Lib.hid hr2; (try simp only [World.size_alloc, World.size_setCell, World.size_drew] at hz2)) | (go_at_call 58; (with_reducible refine (cp _ _ _ hr2.out.1 hr2.out.2).mono ?_); rintro en w3 ⟨A3, c3, rfl, hs3, hb3⟩; obtain ⟨hc3, hf3⟩ := bcell hb3; have hz3 := hb3.size; replace hs3 := Lib.hid hs3; (try simp only [World.size_alloc, World.size_setCell, World.size_drew] at hz3)) | (go_at_call 44; (with_reducible refine (cm _ _ _).mono ?_); rintro en w4 ⟨rfl, hb4⟩; obtain ⟨hc4, hf4⟩ := bcell hb4; have hz4 := hb4.size; (try simp only [World.size_alloc, World.size_setCell, World.size_drew] at hz4)))
    refine bodyPost_ret (v := .tuple #[(.agg #[.int .i64 ((128 + k)), .int .i64 (id), .slice (A3) (bb.length) (c3)]), .bool false]) (by simp [results, Tryd.results86, go_sem, ↓IntWalk.iteOmega, *]) rfl ?_
    rw [← HM.out]
    exact MsgP.no H.out (by (repeat (first | (with_reducible exact Below.refl _ _) | ((with_reducible refine Below.alloc ?_ ?hB _); (case hB => (first | omega | (simp; done) | (simp; omega)))) | ((with_reducible refine Below.setCell ?_ ?hB _); (case hB => (first | omega | (simp; done) | (simp; omega)))) | (with_reducible refine Below.drew ?_) | ((with_reducible refine below_ext_of ?_ ?hB); (case hB => (first | omega | (simp; done) | (simp; omega)))) | ((with_reducible refine Below.trans ?_ (Below.mono (by assumption) ?hB)); (case hB => (first | omega | (simp; done) | (simp; omega)))))))
end Go.Proofs.YtinnaiofgbjicaaDoor
