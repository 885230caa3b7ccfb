/- What the document says of keys that are dropped, all of a client. -/
import Derived.Test.YteldbnelfeiifaaStkS
namespace Go.Proofs.Yteldbnelfeiifaa
open Go.RowKit Go.Proofs.YteldbnelfeiifaaW.PrintWords
set_option linter.unusedSimpArgs false
set_option linter.unusedVariables false
set_option maxRecDepth 1000000
attribute [local go_sem high] eqK eqKS
def dropA (l : List K2) (c : Int) : List K2 := l.filter (fun x => decide (x.c ≠ c))
def goneA (l : List K2) (c : Int) : List K2 := l.filter (fun x => decide (x.c = c))
theorem dropA_take (l : List K2) (c : Int) (j : Nat) (h : j < l.length) : dropA (l.take (j + 1)) c = if (atK l j).c = c then dropA (l.take j) c else dropA (l.take j) c ++ [atK l j] := by
  rw [takeK l j h]; unfold dropA; rw [List.filter_append]
  split <;> simp_all
theorem goneA_take (l : List K2) (c : Int) (j : Nat) (h : j < l.length) : goneA (l.take (j + 1)) c = if (atK l j).c = c then goneA (l.take j) c ++ [atK l j] else goneA (l.take j) c := by
  rw [takeK l j h]; unfold goneA; rw [List.filter_append]
  split <;> simp_all
theorem dropA_len (l : List K2) (c : Int) : (dropA l c).length ≤ l.length := List.length_filter_le _ _
theorem goneA_len (l : List K2) (c : Int) : (goneA l c).length ≤ l.length := List.length_filter_le _ _
/-- Two slices in different blocks. -/
def Apart (v u : Value) : Prop := ∀ b, v.ownBlock = some b → u.ownBlock ≠ some b
theorem Apart.symm {v u : Value} (h : Apart v u) : Apart u v := fun b hb he => h b he hb
theorem Apart.grow {W : World} {v v1 u : Value} (h : Apart v u) (hu : ∀ b, u.ownBlock = some b → b < W.heap.size) (ha : v1.ownBlock = v.ownBlock ∨ ∃ b, v1.ownBlock = some b ∧ W.heap.size ≤ b) : Apart v1 u := fun b hb he => by
  rcases ha with ha | ⟨b', ha, hl⟩
  · exact h b (ha ▸ hb) he
  · rw [ha] at hb; injection hb with hb; have := hu b he; omega
theorem OwnK.apart {W W1 : World} {base : Nat} {t : TypeId} {v u : Value} {l : List K2} (h : OwnK W base t u l) (hg : W.grownBy W1 v.ownBlock) (ha : Apart v u) : OwnK W1 base t u l := by
  refine World.ownsRow.kept h hg ?_
  cases hb : u.ownBlock with
  | none => exact .inl rfl
  | some b => exact .inr (fun e => ha b e.symm hb)
theorem OwnK.lt {W : World} {base : Nat} {t : TypeId} {v : Value} {l : List K2} (h : OwnK W base t v l) : ∀ b, v.ownBlock = some b → b < W.heap.size := fun b hb => (World.ownsRow.lt h b hb).2
def DropAP (w : World) (l : List K2) (c : Int) (e : Ending) (w' : World) : Prop := ∃ v u, e = .returned (.tuple #[v, u]) ∧ OwnK w' w.heap.size 56 v (dropA l c) ∧ OwnK w' w.heap.size 56 u (goneA l c) ∧ Below w.heap.size w w'
set_option maxHeartbeats 1000000 in
theorem ref_DropAll (A : Option Addr) (l : List K2) (cc : Nat) (c : Int) (w : World) (hl : l.length ≤ 100000) (hr : KR w A l cc) : Calls Try.prog 68 #[.slice A l.length cc, .int .i64 c] w (DropAP w l c) := by
  go_enter Try.func68, Try.ntmps68
  have hrow := hr.row
  clear hr
  go_wp2
  go_loopw [6, 7, 8] (fun v u i wr => ∃ j : Nat, j ≤ l.length ∧ i = .int .i64 j ∧ Below w.heap.size w wr ∧ Hid (OwnK wr w.heap.size 56 v (dropA (l.take j) c)) ∧ Hid (OwnK wr w.heap.size 56 u (goneA (l.take j) c)) ∧ Hid (Apart v u)) (fun _ _ i _ => l.length - (intOf i).toNat)
  case atStart => exact ⟨0, by omega, rfl, Below.refl _ _, Lib.hid (OwnK.nil _ _ _), Lib.hid (OwnK.nil _ _ _), Lib.hid (fun b hb => by simp [Value.ownBlock] at hb)⟩
  case round =>
    obtain ⟨j, hj, rfl, hbr, ho, hu, hap⟩ := hrel
    have hzr := hbr.size
    by_cases hlt : j < l.length
    · obtain ⟨ad, rfl, f0, f1⟩ := hrow j hlt
      have g0 := pw_cell_below hbr f0; have g1 := pw_cell_below hbr f1
      have HT := Lib.hid (dropA_take l c j hlt)
      have HG := Lib.hid (goneA_take l c j hlt)
      have hm1 := dropA_len (l.take j) c
      have hm2 := goneA_len (l.take j) c
      rw [List.length_take] at hm1 hm2
      generalize dropA (l.take j) c = m1 at *
      generalize goneA (l.take j) c = m2 at *
      have hm1' : m1.length ≤ 100000 := by omega
      have hm2' : m2.length ≤ 100000 := by omega
      clear f0 f1 hrow
      by_cases he : (atK l j).c = c
      · generalize atK l j = x at *
        obtain ⟨xc, xi⟩ := x
        dsimp only at he g0 g1
        subst he
        go_wp2_with (first | (at_builtin; refine print_append_cells (w0 := w) (w.heap.size) rfl _ _ 54 56 _ 2 16 rfl Try.underlying54 info_k rfl (by decide) (by decide) _ _ _ [.int .i64 ((⟨xc, xi⟩ : K2)).c, .int .i64 ((⟨xc, xi⟩ : K2)).i] rfl ?_ rfl ?_ (OwnK.below hu.out ?_) ?_ ?_ ?_ ?_; (focus (go_simp; done)); (focus (simp [Value.oneCell']; done)); (focus ((repeat (first | (with_reducible exact Below.refl _ _) | ((with_reducible refine Below.alloc ?_ ?hB _); (case hB => (first | omega | (simp; done) | (simp; omega)))) | ((with_reducible refine Below.setCell ?_ ?hB _); (case hB => (first | omega | (simp; done) | (simp; omega)))) | (with_reducible refine Below.drew ?_) | ((with_reducible refine below_ext_of ?_ ?hB); (case hB => (first | omega | (simp; done) | (simp; omega)))) | ((with_reducible refine Below.trans ?_ (Below.mono (by assumption) ?hB)); (case hB => (first | omega | (simp; done) | (simp; omega)))))); done)); (focus ((repeat (first | (with_reducible exact Below.refl _ _) | ((with_reducible refine Below.alloc ?_ ?hB _); (case hB => (first | omega | (simp; done) | (simp; omega)))) | ((with_reducible refine Below.setCell ?_ ?hB _); (case hB => (first | omega | (simp; done) | (simp; omega)))) | (with_reducible refine Below.drew ?_) | ((with_reducible refine below_ext_of ?_ ?hB); (case hB => (first | omega | (simp; done) | (simp; omega)))) | ((with_reducible refine Below.trans ?_ (Below.mono (by assumption) ?hB)); (case hB => (first | omega | (simp; done) | (simp; omega)))))); done)); (focus ((first | omega | (simp; done) | (simp; omega)); done)); (focus omega); intro v3 w3 hown3 hb3 hg3 ha3; have hz3 := hb3.size; (try simp only [World.size_alloc, World.size_setCell, World.size_drew] at hz3)))
        go_roundw
        case rel => exact ⟨j + 1, by omega, by go_num, hb3, by rw [HT.out, if_pos rfl]; exact Lib.hid (ho.out.apart hg3 hap.out.symm), by rw [HG.out, if_pos rfl]; exact Lib.hid (OwnK.snoc hown3), Lib.hid (hap.out.symm.grow ho.out.lt ha3).symm⟩
        case measure => simp [intOf]; omega
      · have HE := Lib.hid he
        generalize atK l j = x at *
        go_wp2_with (first | (at_builtin; refine print_append_cells (w0 := w) (w.heap.size) rfl _ _ 54 56 _ 2 16 rfl Try.underlying54 info_k rfl (by decide) (by decide) _ _ _ [.int .i64 (x).c, .int .i64 (x).i] rfl ?_ rfl ?_ (OwnK.below ho.out ?_) ?_ ?_ ?_ ?_; (focus (go_simp; done)); (focus (simp [Value.oneCell']; done)); (focus ((repeat (first | (with_reducible exact Below.refl _ _) | ((with_reducible refine Below.alloc ?_ ?hB _); (case hB => (first | omega | (simp; done) | (simp; omega)))) | ((with_reducible refine Below.setCell ?_ ?hB _); (case hB => (first | omega | (simp; done) | (simp; omega)))) | (with_reducible refine Below.drew ?_) | ((with_reducible refine below_ext_of ?_ ?hB); (case hB => (first | omega | (simp; done) | (simp; omega)))) | ((with_reducible refine Below.trans ?_ (Below.mono (by assumption) ?hB)); (case hB => (first | omega | (simp; done) | (simp; omega)))))); done)); (focus ((repeat (first | (with_reducible exact Below.refl _ _) | ((with_reducible refine Below.alloc ?_ ?hB _); (case hB => (first | omega | (simp; done) | (simp; omega)))) | ((with_reducible refine Below.setCell ?_ ?hB _); (case hB => (first | omega | (simp; done) | (simp; omega)))) | (with_reducible refine Below.drew ?_) | ((with_reducible refine below_ext_of ?_ ?hB); (case hB => (first | omega | (simp; done) | (simp; omega)))) | ((with_reducible refine Below.trans ?_ (Below.mono (by assumption) ?hB)); (case hB => (first | omega | (simp; done) | (simp; omega)))))); done)); (focus ((first | omega | (simp; done) | (simp; omega)); done)); (focus omega); intro v3 w3 hown3 hb3 hg3 ha3; have hz3 := hb3.size; (try simp only [World.size_alloc, World.size_setCell, World.size_drew] at hz3)))
        go_roundw
        case rel => exact ⟨j + 1, by omega, by go_num, hb3, by rw [HT.out, if_neg HE.out]; exact Lib.hid (OwnK.snoc hown3), by rw [HG.out, if_neg HE.out]; exact Lib.hid (hu.out.apart hg3 hap.out), Lib.hid (hap.out.grow hu.out.lt ha3)⟩
        case measure => simp [intOf]; omega
    · obtain rfl : j = l.length := by omega
      rw [List.take_length] at ho hu
      clear hrow
      go_wp2
      go_ret2
      exact ⟨_, _, rfl, ho.out, hu.out, hbr⟩
/-- What lies over k's new place: k behind o, no more where it stood. -/
def raiseS (l : List K2) (k o : K2) : List K2 := l.flatMap (fun x => (if x = k then [] else [x]) ++ (if x = o then [k] else []))
theorem raiseS_take (l : List K2) (k o : K2) (j : Nat) (h : j < l.length) : raiseS (l.take (j + 1)) k o = raiseS (l.take j) k o ++ ((if atK l j = k then [] else [atK l j]) ++ (if atK l j = o then [k] else [])) := by
  rw [takeK l j h]; unfold raiseS; rw [List.flatMap_append]; simp
theorem raiseS_len (l : List K2) (k o : K2) : (raiseS l k o).length ≤ 2 * l.length := by
  unfold raiseS
  induction l with
  | nil => simp
  | cons x l ih =>
    simp only [List.flatMap_cons, List.length_append, List.length_cons]
    have h1 : (if x = k then ([] : List K2) else [x]).length ≤ 1 := by split <;> simp
    have h2 : (if x = o then [k] else ([] : List K2)).length ≤ 1 := by split <;> simp
    omega
def RaiseR (w : World) (v0 : Value) (l : List K2) (k o : K2) (e : Ending) (w' : World) : Prop := ∃ v r, e = .returned (.tuple #[v, .int .i64 r]) ∧ (if k ∉ l ∨ o ∉ l then v = v0 ∧ r = 5 else if k = o then v = v0 ∧ r = 1 else r = 0 ∧ OwnK w' w.heap.size 56 v (raiseS l k o)) ∧ Below w.heap.size w w'
set_option maxHeartbeats 4000000 in
theorem ref_Raise (A : Option Addr) (l : List K2) (c : Nat) (k o : K2) (w : World) (hl : l.length ≤ 10000) (hr : KR w A l c) : Calls Try.prog 70 #[.slice A l.length c, (.agg #[.int .i64 (k).c, .int .i64 (k).i]), (.agg #[.int .i64 (o).c, .int .i64 (o).i])] w (RaiseR w (.slice A l.length c) l k o) := by
  have hrow := hr.row
  have cK := fun w1 (hb : Below w.heap.size w w1) => ref_At A l c k w1 (by omega) (hrow.below hb)
  have cO := fun w1 (hb : Below w.heap.size w w1) => ref_At A l c o w1 (by omega) (hrow.below hb)
  clear hr
  obtain ⟨rk, hrk⟩ : ∃ r, atP l k = r := ⟨_, rfl⟩
  obtain ⟨ro, hro⟩ : ∃ r, atP l o = r := ⟨_, rfl⟩
  rw [hrk] at cK
  rw [hro] at cO
  by_cases hk : k ∈ l
  · have hk0 : 0 ≤ rk := by rcases Int.lt_or_le rk 0 with h0 | h0; exact absurd hk (atP_neg.1 (by rw [hrk]; exact h0)); exact h0
    by_cases ho : o ∈ l
    · have ho0 : 0 ≤ ro := by rcases Int.lt_or_le ro 0 with h0 | h0; exact absurd ho (atP_neg.1 (by rw [hro]; exact h0)); exact h0
      have HKO := Lib.hid (show ¬ (k ∉ l ∨ o ∉ l) from fun h => h.elim (fun h => h hk) (fun h => h ho))
      have hek := kEq_iff k o
      by_cases hko : k = o
      · rw [decide_eq_true hko] at hek
        have HE := Lib.hid hko
        clear hrk hro hk ho hko hrow
        go_enter Try.func70, Try.ntmps70
        go_wp2_with (first | (go_at_call 47; (with_reducible refine (cK _ ?_).mono ?_); (focus ((repeat (first | (with_reducible exact Below.refl _ _) | ((with_reducible refine Below.alloc ?_ ?hB _); (case hB => (first | omega | (simp; done) | (simp; omega)))) | ((with_reducible refine Below.setCell ?_ ?hB _); (case hB => (first | omega | (simp; done) | (simp; omega)))) | (with_reducible refine Below.drew ?_) | ((with_reducible refine below_ext_of ?_ ?hB); (case hB => (first | omega | (simp; done) | (simp; omega)))) | ((with_reducible refine Below.trans ?_ (Below.mono (by assumption) ?hB)); (case hB => (first | omega | (simp; done) | (simp; omega)))))); done)); rintro e w2 ⟨rfl, hb2⟩; have hz2 := hb2.size; (try simp only [World.size_alloc] at hz2); obtain ⟨hc2, hf2⟩ := bcell hb2) | (go_at_call 47; (with_reducible refine (cO _ ?_).mono ?_); (focus ((repeat (first | (with_reducible exact Below.refl _ _) | ((with_reducible refine Below.alloc ?_ ?hB _); (case hB => (first | omega | (simp; done) | (simp; omega)))) | ((with_reducible refine Below.setCell ?_ ?hB _); (case hB => (first | omega | (simp; done) | (simp; omega)))) | (with_reducible refine Below.drew ?_) | ((with_reducible refine below_ext_of ?_ ?hB); (case hB => (first | omega | (simp; done) | (simp; omega)))) | ((with_reducible refine Below.trans ?_ (Below.mono (by assumption) ?hB)); (case hB => (first | omega | (simp; done) | (simp; omega)))))); done)); rintro e w3 ⟨rfl, hb3⟩; have hz3 := hb3.size; (try simp only [World.size_alloc] at hz3); obtain ⟨hc3, hf3⟩ := bcell hb3))
        go_ret2
        exact ⟨_, _, rfl, by rw [if_neg HKO.out, if_pos HE.out]; exact ⟨rfl, rfl⟩, by (repeat (first | (with_reducible exact Below.refl _ _) | ((with_reducible refine Below.alloc ?_ ?hB _); (case hB => (first | omega | (simp; done) | (simp; omega)))) | ((with_reducible refine Below.setCell ?_ ?hB _); (case hB => (first | omega | (simp; done) | (simp; omega)))) | (with_reducible refine Below.drew ?_) | ((with_reducible refine below_ext_of ?_ ?hB); (case hB => (first | omega | (simp; done) | (simp; omega)))) | ((with_reducible refine Below.trans ?_ (Below.mono (by assumption) ?hB)); (case hB => (first | omega | (simp; done) | (simp; omega))))))⟩
      · rw [decide_eq_false hko] at hek
        have HE := Lib.hid hko
        clear hrk hro hk ho hko
        go_enter Try.func70, Try.ntmps70
        go_wp2_with (first | (go_at_call 47; (with_reducible refine (cK _ ?_).mono ?_); (focus ((repeat (first | (with_reducible exact Below.refl _ _) | ((with_reducible refine Below.alloc ?_ ?hB _); (case hB => (first | omega | (simp; done) | (simp; omega)))) | ((with_reducible refine Below.setCell ?_ ?hB _); (case hB => (first | omega | (simp; done) | (simp; omega)))) | (with_reducible refine Below.drew ?_) | ((with_reducible refine below_ext_of ?_ ?hB); (case hB => (first | omega | (simp; done) | (simp; omega)))) | ((with_reducible refine Below.trans ?_ (Below.mono (by assumption) ?hB)); (case hB => (first | omega | (simp; done) | (simp; omega)))))); done)); rintro e w2 ⟨rfl, hb2⟩; have hz2 := hb2.size; (try simp only [World.size_alloc] at hz2); obtain ⟨hc2, hf2⟩ := bcell hb2) | (go_at_call 47; (with_reducible refine (cO _ ?_).mono ?_); (focus ((repeat (first | (with_reducible exact Below.refl _ _) | ((with_reducible refine Below.alloc ?_ ?hB _); (case hB => (first | omega | (simp; done) | (simp; omega)))) | ((with_reducible refine Below.setCell ?_ ?hB _); (case hB => (first | omega | (simp; done) | (simp; omega)))) | (with_reducible refine Below.drew ?_) | ((with_reducible refine below_ext_of ?_ ?hB); (case hB => (first | omega | (simp; done) | (simp; omega)))) | ((with_reducible refine Below.trans ?_ (Below.mono (by assumption) ?hB)); (case hB => (first | omega | (simp; done) | (simp; omega)))))); done)); rintro e w3 ⟨rfl, hb3⟩; have hz3 := hb3.size; (try simp only [World.size_alloc] at hz3); obtain ⟨hc3, hf3⟩ := bcell hb3))
        have hB3 : Below ((w.alloc (.cells #[.int .i64 k.c, .int .i64 k.i] 56)).alloc (.cells #[.int .i64 o.c, .int .i64 o.i] 56)).heap.size ((w.alloc (.cells #[.int .i64 k.c, .int .i64 k.i] 56)).alloc (.cells #[.int .i64 o.c, .int .i64 o.i] 56)) w3 := by (repeat (first | (with_reducible exact Below.refl _ _) | ((with_reducible refine Below.alloc ?_ ?hB _); (case hB => (first | omega | (simp; done) | (simp; omega)))) | ((with_reducible refine Below.setCell ?_ ?hB _); (case hB => (first | omega | (simp; done) | (simp; omega)))) | (with_reducible refine Below.drew ?_) | ((with_reducible refine below_ext_of ?_ ?hB); (case hB => (first | omega | (simp; done) | (simp; omega)))) | ((with_reducible refine Below.trans ?_ (Below.mono (by assumption) ?hB)); (case hB => (first | omega | (simp; done) | (simp; omega))))))
        have hbw3 := Lib.hid (show Below w.heap.size w w3 from by (repeat (first | (with_reducible exact Below.refl _ _) | ((with_reducible refine Below.alloc ?_ ?hB _); (case hB => (first | omega | (simp; done) | (simp; omega)))) | ((with_reducible refine Below.setCell ?_ ?hB _); (case hB => (first | omega | (simp; done) | (simp; omega)))) | (with_reducible refine Below.drew ?_) | ((with_reducible refine below_ext_of ?_ ?hB); (case hB => (first | omega | (simp; done) | (simp; omega)))) | ((with_reducible refine Below.trans ?_ (Below.mono (by assumption) ?hB)); (case hB => (first | omega | (simp; done) | (simp; omega)))))))
        have e0 : w3.heap[w.heap.size]? = some (.cells #[.int .i64 k.c, .int .i64 k.i] 56 (0, 0)) := (hB3.block _ (by simp; omega)).trans (blk_alloc (blk_new _ _) _)
        have e1 : w3.heap[w.heap.size + 1]? = some (.cells #[.int .i64 o.c, .int .i64 o.i] 56 (0, 0)) := (hB3.block _ (by simp)).trans (by have := blk_new (w.alloc (.cells #[.int .i64 k.c, .int .i64 k.i] 56)) (.cells #[.int .i64 o.c, .int .i64 o.i] 56); rwa [World.size_alloc] at this)
        have k0 : w3.cell? ⟨w.heap.size, 0, none⟩ = some (.int .i64 k.c) := by simp [World.cell?, e0]
        have k1 : w3.cell? ⟨w.heap.size, 1, none⟩ = some (.int .i64 k.i) := by simp [World.cell?, e0]
        have o0 : w3.cell? ⟨w.heap.size + 1, 0, none⟩ = some (.int .i64 o.c) := by simp [World.cell?, e1]
        have o1 : w3.cell? ⟨w.heap.size + 1, 1, none⟩ = some (.int .i64 o.i) := by simp [World.cell?, e1]
        have hrow3 := hrow.below hbw3.out
        have hz03 : w.heap.size + 2 ≤ w3.heap.size := by omega
        clear hB3 e0 e1 hb2 hb3 hc2 hc3 hf2 hf3 hrow cK cO hz2 hz3
        go_loopw [8, 9] (fun v i wr => ∃ j : Nat, j ≤ l.length ∧ i = .int .i64 j ∧ Below w3.heap.size w3 wr ∧ Hid (OwnK wr w3.heap.size 56 v (raiseS (l.take j) k o))) (fun _ i _ => l.length - (intOf i).toNat)
        case atStart => exact ⟨0, by omega, rfl, Below.refl _ _, Lib.hid (OwnK.nil _ _ _)⟩
        case round =>
          obtain ⟨j, hj, rfl, hbr, hown⟩ := hrel
          have hzr := hbr.size
          have K0 := Lib.hid k0
          have K1 := Lib.hid k1
          have O0 := Lib.hid o0
          have O1 := Lib.hid o1
          replace k0 := pw_cell_below hbr k0
          replace k1 := pw_cell_below hbr k1
          replace o0 := pw_cell_below hbr o0
          replace o1 := pw_cell_below hbr o1
          by_cases hlt : j < l.length
          · obtain ⟨ad, rfl, f0, f1⟩ := hrow3 j hlt
            have g0 := pw_cell_below hbr f0; have g1 := pw_cell_below hbr f1
            have xk0 := fun x => pw_cell_below (below_ext wr x) k0
            have xk1 := fun x => pw_cell_below (below_ext wr x) k1
            have gx0 := fun x => pw_cell_below (below_ext wr x) g0
            have gx1 := fun x => pw_cell_below (below_ext wr x) g1
            have HT := Lib.hid (raiseS_take l k o j hlt)
            have hm1 := raiseS_len (l.take j) k o
            rw [List.length_take] at hm1
            generalize raiseS (l.take j) k o = m1 at *
            have hm1' : m1.length ≤ 20000 := by omega
            have F0 := Lib.hid f0
            have F1 := Lib.hid f1
            clear f0 f1 hrow3 hm1
            by_cases hxk : atK l j = k
            · have HX := Lib.hid (show (if atK l j = k then ([] : List K2) else [atK l j]) ++ (if atK l j = o then [k] else []) = [] from by rw [if_pos hxk, if_neg (by rw [hxk]; exact HE.out)]; rfl)
              rw [HX.out] at HT
              rw [hxk] at g0 g1 gx0 gx1 F0 F1
              have ekk : kEq k.c k.i k.c k.i = true := by rw [kEq_iff]; simp
              clear hxk
              go_wp2
              (refine wp_region_ext_lit (by kernel_rfl) (by kernel_rfl) ?_; (repeat (go_big_quiet_step ((fail)))); refine wpQuiet_nil ?_; intro w4 hb_w4; obtain ⟨hc_w4, hf_w4⟩ := bcell hb_w4; have hz_w4 := hb_w4.size; (try simp only [World.size_alloc, World.size_setCell, World.size_drew] at hz_w4))
              have g0 := pw_cell_below hb_w4 g0
              have g1 := pw_cell_below hb_w4 g1
              have o0 := pw_cell_below hb_w4 o0
              have o1 := pw_cell_below hb_w4 o1
              have xo0 := fun x => pw_cell_below (below_ext w4 x) o0
              have xo1 := fun x => pw_cell_below (below_ext w4 x) o1
              have hx0 := fun x => pw_cell_below (below_ext w4 x) g0
              have hx1 := fun x => pw_cell_below (below_ext w4 x) g1
              clear hc_w4
              go_wp2
              (refine wp_region_ext_lit (by kernel_rfl) (by kernel_rfl) ?_; (repeat (go_big_quiet_step ((fail)))); refine wpQuiet_nil ?_; intro w5 hb_w5; obtain ⟨hc_w5, hf_w5⟩ := bcell hb_w5; have hz_w5 := hb_w5.size; (try simp only [World.size_alloc, World.size_setCell, World.size_drew] at hz_w5))
              go_wp2
              go_roundw
              case rel => exact ⟨j + 1, by omega, by go_num, by (repeat (first | (with_reducible exact Below.refl _ _) | ((with_reducible refine Below.alloc ?_ ?hB _); (case hB => (first | omega | (simp; done) | (simp; omega)))) | ((with_reducible refine Below.setCell ?_ ?hB _); (case hB => (first | omega | (simp; done) | (simp; omega)))) | (with_reducible refine Below.drew ?_) | ((with_reducible refine below_ext_of ?_ ?hB); (case hB => (first | omega | (simp; done) | (simp; omega)))) | ((with_reducible refine Below.trans ?_ (Below.mono (by assumption) ?hB)); (case hB => (first | omega | (simp; done) | (simp; omega)))))), by rw [HT.out, List.append_nil]; exact Lib.hid ((hown.out.below hb_w4).below hb_w5)⟩
              case measure => simp [intOf]; omega
            · have exk : kEq (atK l j).c (atK l j).i k.c k.i = false := by rw [kEq_iff]; simp [hxk]
              by_cases hxo : atK l j = o
              · have HX := Lib.hid (show (if atK l j = k then ([] : List K2) else [atK l j]) ++ (if atK l j = o then [k] else []) = [o] ++ [k] from by rw [if_neg hxk, if_pos hxo, hxo])
                rw [HX.out] at HT
                rw [hxo] at g0 g1 gx0 gx1 exk F0 F1
                have eoo : kEq o.c o.i o.c o.i = true := by rw [kEq_iff]; simp
                clear hxk hxo
                go_wp2
                (refine wp_region_ext_lit (by kernel_rfl) (by kernel_rfl) ?_; (repeat (go_big_quiet_step ((fail)))); refine wpQuiet_nil ?_; intro w4 hb_w4; obtain ⟨hc_w4, hf_w4⟩ := bcell hb_w4; have hz_w4 := hb_w4.size; (try simp only [World.size_alloc, World.size_setCell, World.size_drew] at hz_w4))
                have g0 := pw_cell_below hb_w4 g0
                have g1 := pw_cell_below hb_w4 g1
                have k0 := pw_cell_below hb_w4 k0
                have k1 := pw_cell_below hb_w4 k1
                have o0 := pw_cell_below hb_w4 o0
                have o1 := pw_cell_below hb_w4 o1
                clear hc_w4
                go_wp2_with (first | (at_builtin; refine print_append_cells (w0 := w3) (w3.heap.size) rfl _ _ 54 56 _ 2 16 rfl Try.underlying54 info_k rfl (by decide) (by decide) _ _ _ [.int .i64 (o).c, .int .i64 (o).i] rfl ?_ rfl ?_ (OwnK.below hown.out ?_) ?_ ?_ ?_ ?_; (focus (go_simp; done)); (focus (simp [Value.oneCell']; done)); (focus ((repeat (first | (with_reducible exact Below.refl _ _) | ((with_reducible refine Below.alloc ?_ ?hB _); (case hB => (first | omega | (simp; done) | (simp; omega)))) | ((with_reducible refine Below.setCell ?_ ?hB _); (case hB => (first | omega | (simp; done) | (simp; omega)))) | (with_reducible refine Below.drew ?_) | ((with_reducible refine below_ext_of ?_ ?hB); (case hB => (first | omega | (simp; done) | (simp; omega)))) | ((with_reducible refine Below.trans ?_ (Below.mono (by assumption) ?hB)); (case hB => (first | omega | (simp; done) | (simp; omega)))))); done)); (focus ((repeat (first | (with_reducible exact Below.refl _ _) | ((with_reducible refine Below.alloc ?_ ?hB _); (case hB => (first | omega | (simp; done) | (simp; omega)))) | ((with_reducible refine Below.setCell ?_ ?hB _); (case hB => (first | omega | (simp; done) | (simp; omega)))) | (with_reducible refine Below.drew ?_) | ((with_reducible refine below_ext_of ?_ ?hB); (case hB => (first | omega | (simp; done) | (simp; omega)))) | ((with_reducible refine Below.trans ?_ (Below.mono (by assumption) ?hB)); (case hB => (first | omega | (simp; done) | (simp; omega)))))); done)); (focus ((first | omega | (simp; done) | (simp; omega)); done)); (focus omega); intro v6 w6 hown6 hb6 hg6 ha6; have hz6 := hb6.size; (try simp only [World.size_alloc, World.size_setCell, World.size_drew] at hz6)))
                have g0 := pw_cell_below hb6 F0.out
                have g1 := pw_cell_below hb6 F1.out
                have k0 := pw_cell_below hb6 K0.out
                have k1 := pw_cell_below hb6 K1.out
                have o0 := pw_cell_below hb6 O0.out
                have o1 := pw_cell_below hb6 O1.out
                have xo0 := fun x => pw_cell_below (below_ext w6 x) o0
                have xo1 := fun x => pw_cell_below (below_ext w6 x) o1
                have hx0 := fun x => pw_cell_below (below_ext w6 x) g0
                have hx1 := fun x => pw_cell_below (below_ext w6 x) g1
                have hz6 := hb6.size
                replace hown6 := Lib.hid (OwnK.snoc hown6)
                (refine wp_region_ext_lit (by kernel_rfl) (by kernel_rfl) ?_; (repeat (go_big_quiet_step ((fail)))); refine wpQuiet_nil ?_; intro w7 hb_w7; obtain ⟨hc_w7, hf_w7⟩ := bcell hb_w7; have hz_w7 := hb_w7.size; (try simp only [World.size_alloc, World.size_setCell, World.size_drew] at hz_w7))
                have k0 := pw_cell_below hb_w7 k0
                have k1 := pw_cell_below hb_w7 k1
                have hml7 : (m1 ++ [o]).length ≤ 30000 := by simp; omega
                clear hc_w7
                obtain ⟨m2, hm2⟩ : ∃ m2, m1 ++ [o] = m2 := ⟨_, rfl⟩
                rw [hm2] at hown6 hml7
                replace hm2 := Lib.hid hm2
                go_wp2_with (first | (at_builtin; refine print_append_cells (w0 := w3) (w3.heap.size) rfl _ _ 54 56 _ 2 16 rfl Try.underlying54 info_k rfl (by decide) (by decide) _ _ _ [.int .i64 (k).c, .int .i64 (k).i] rfl ?_ rfl ?_ (OwnK.below hown6.out ?_) ?_ ?_ ?_ ?_; (focus (go_simp; done)); (focus (simp [Value.oneCell']; done)); (focus ((repeat (first | (with_reducible exact Below.refl _ _) | ((with_reducible refine Below.alloc ?_ ?hB _); (case hB => (first | omega | (simp; done) | (simp; omega)))) | ((with_reducible refine Below.setCell ?_ ?hB _); (case hB => (first | omega | (simp; done) | (simp; omega)))) | (with_reducible refine Below.drew ?_) | ((with_reducible refine below_ext_of ?_ ?hB); (case hB => (first | omega | (simp; done) | (simp; omega)))) | ((with_reducible refine Below.trans ?_ (Below.mono (by assumption) ?hB)); (case hB => (first | omega | (simp; done) | (simp; omega)))))); done)); (focus ((repeat (first | (with_reducible exact Below.refl _ _) | ((with_reducible refine Below.alloc ?_ ?hB _); (case hB => (first | omega | (simp; done) | (simp; omega)))) | ((with_reducible refine Below.setCell ?_ ?hB _); (case hB => (first | omega | (simp; done) | (simp; omega)))) | (with_reducible refine Below.drew ?_) | ((with_reducible refine below_ext_of ?_ ?hB); (case hB => (first | omega | (simp; done) | (simp; omega)))) | ((with_reducible refine Below.trans ?_ (Below.mono (by assumption) ?hB)); (case hB => (first | omega | (simp; done) | (simp; omega)))))); done)); (focus ((first | omega | (simp; done) | (simp; omega)); done)); (focus omega); intro v8 w8 hown8 hb8 hg8 ha8; have hz8 := hb8.size; (try simp only [World.size_alloc, World.size_setCell, World.size_drew] at hz8)))
                go_roundw
                case rel => exact ⟨j + 1, by omega, by go_num, hb8, by rw [HT.out, ← List.append_assoc, hm2.out]; exact Lib.hid (OwnK.snoc hown8)⟩
                case measure => simp [intOf]; omega
              · have HX := Lib.hid (show (if atK l j = k then ([] : List K2) else [atK l j]) ++ (if atK l j = o then [k] else []) = [atK l j] from by rw [if_neg hxk, if_neg hxo]; rfl)
                rw [HX.out] at HT
                have exo : kEq (atK l j).c (atK l j).i o.c o.i = false := by rw [kEq_iff]; simp [hxo]
                clear hxk hxo HX
                generalize atK l j = x at *
                go_wp2
                (refine wp_region_ext_lit (by kernel_rfl) (by kernel_rfl) ?_; (repeat (go_big_quiet_step ((fail)))); refine wpQuiet_nil ?_; intro w4 hb_w4; obtain ⟨hc_w4, hf_w4⟩ := bcell hb_w4; have hz_w4 := hb_w4.size; (try simp only [World.size_alloc, World.size_setCell, World.size_drew] at hz_w4))
                have g0 := pw_cell_below hb_w4 g0
                have g1 := pw_cell_below hb_w4 g1
                clear hc_w4
                go_wp2_with (first | (at_builtin; refine print_append_cells (w0 := w3) (w3.heap.size) rfl _ _ 54 56 _ 2 16 rfl Try.underlying54 info_k rfl (by decide) (by decide) _ _ _ [.int .i64 (x).c, .int .i64 (x).i] rfl ?_ rfl ?_ (OwnK.below hown.out ?_) ?_ ?_ ?_ ?_; (focus (go_simp; done)); (focus (simp [Value.oneCell']; done)); (focus ((repeat (first | (with_reducible exact Below.refl _ _) | ((with_reducible refine Below.alloc ?_ ?hB _); (case hB => (first | omega | (simp; done) | (simp; omega)))) | ((with_reducible refine Below.setCell ?_ ?hB _); (case hB => (first | omega | (simp; done) | (simp; omega)))) | (with_reducible refine Below.drew ?_) | ((with_reducible refine below_ext_of ?_ ?hB); (case hB => (first | omega | (simp; done) | (simp; omega)))) | ((with_reducible refine Below.trans ?_ (Below.mono (by assumption) ?hB)); (case hB => (first | omega | (simp; done) | (simp; omega)))))); done)); (focus ((repeat (first | (with_reducible exact Below.refl _ _) | ((with_reducible refine Below.alloc ?_ ?hB _); (case hB => (first | omega | (simp; done) | (simp; omega)))) | ((with_reducible refine Below.setCell ?_ ?hB _); (case hB => (first | omega | (simp; done) | (simp; omega)))) | (with_reducible refine Below.drew ?_) | ((with_reducible refine below_ext_of ?_ ?hB); (case hB => (first | omega | (simp; done) | (simp; omega)))) | ((with_reducible refine Below.trans ?_ (Below.mono (by assumption) ?hB)); (case hB => (first | omega | (simp; done) | (simp; omega)))))); done)); (focus ((first | omega | (simp; done) | (simp; omega)); done)); (focus omega); intro v6 w6 hown6 hb6 hg6 ha6; have hz6 := hb6.size; (try simp only [World.size_alloc, World.size_setCell, World.size_drew] at hz6)))
                have g0 := pw_cell_below hb6 F0.out
                have g1 := pw_cell_below hb6 F1.out
                have o0 := pw_cell_below hb6 O0.out
                have o1 := pw_cell_below hb6 O1.out
                have xo0 := fun x => pw_cell_below (below_ext w6 x) o0
                have xo1 := fun x => pw_cell_below (below_ext w6 x) o1
                have hx0 := fun x => pw_cell_below (below_ext w6 x) g0
                have hx1 := fun x => pw_cell_below (below_ext w6 x) g1
                have hz6 := hb6.size
                replace hown6 := Lib.hid (OwnK.snoc hown6)
                (refine wp_region_ext_lit (by kernel_rfl) (by kernel_rfl) ?_; (repeat (go_big_quiet_step ((fail)))); refine wpQuiet_nil ?_; intro w7 hb_w7; obtain ⟨hc_w7, hf_w7⟩ := bcell hb_w7; have hz_w7 := hb_w7.size; (try simp only [World.size_alloc, World.size_setCell, World.size_drew] at hz_w7))
                go_wp2
                go_roundw
                case rel => exact ⟨j + 1, by omega, by go_num, by (repeat (first | (with_reducible exact Below.refl _ _) | ((with_reducible refine Below.alloc ?_ ?hB _); (case hB => (first | omega | (simp; done) | (simp; omega)))) | ((with_reducible refine Below.setCell ?_ ?hB _); (case hB => (first | omega | (simp; done) | (simp; omega)))) | (with_reducible refine Below.drew ?_) | ((with_reducible refine below_ext_of ?_ ?hB); (case hB => (first | omega | (simp; done) | (simp; omega)))) | ((with_reducible refine Below.trans ?_ (Below.mono (by assumption) ?hB)); (case hB => (first | omega | (simp; done) | (simp; omega)))))), by rw [HT.out]; exact Lib.hid (hown6.out.below hb_w7)⟩
                case measure => simp [intOf]; omega
          · obtain rfl : j = l.length := by omega
            rw [List.take_length] at hown
            clear hrow3
            go_wp2
            go_ret2
            exact ⟨_, _, rfl, by rw [if_neg HKO.out, if_neg HE.out]; exact ⟨rfl, hown.out.mono (by omega)⟩, hbw3.out.trans (hbr.mono (by omega))⟩
    · have HKO := Lib.hid (show (k ∉ l ∨ o ∉ l) from .inr ho)
      have ho0 : ro < 0 := by rw [← hro]; exact atP_neg.2 ho
      clear hrk hro hk ho hrow
      go_enter Try.func70, Try.ntmps70
      go_wp2_with (first | (go_at_call 47; (with_reducible refine (cK _ ?_).mono ?_); (focus ((repeat (first | (with_reducible exact Below.refl _ _) | ((with_reducible refine Below.alloc ?_ ?hB _); (case hB => (first | omega | (simp; done) | (simp; omega)))) | ((with_reducible refine Below.setCell ?_ ?hB _); (case hB => (first | omega | (simp; done) | (simp; omega)))) | (with_reducible refine Below.drew ?_) | ((with_reducible refine below_ext_of ?_ ?hB); (case hB => (first | omega | (simp; done) | (simp; omega)))) | ((with_reducible refine Below.trans ?_ (Below.mono (by assumption) ?hB)); (case hB => (first | omega | (simp; done) | (simp; omega)))))); done)); rintro e w2 ⟨rfl, hb2⟩; have hz2 := hb2.size; (try simp only [World.size_alloc] at hz2); obtain ⟨hc2, hf2⟩ := bcell hb2) | (go_at_call 47; (with_reducible refine (cO _ ?_).mono ?_); (focus ((repeat (first | (with_reducible exact Below.refl _ _) | ((with_reducible refine Below.alloc ?_ ?hB _); (case hB => (first | omega | (simp; done) | (simp; omega)))) | ((with_reducible refine Below.setCell ?_ ?hB _); (case hB => (first | omega | (simp; done) | (simp; omega)))) | (with_reducible refine Below.drew ?_) | ((with_reducible refine below_ext_of ?_ ?hB); (case hB => (first | omega | (simp; done) | (simp; omega)))) | ((with_reducible refine Below.trans ?_ (Below.mono (by assumption) ?hB)); (case hB => (first | omega | (simp; done) | (simp; omega)))))); done)); rintro e w3 ⟨rfl, hb3⟩; have hz3 := hb3.size; (try simp only [World.size_alloc] at hz3); obtain ⟨hc3, hf3⟩ := bcell hb3))
      go_ret2
      exact ⟨_, _, rfl, by rw [if_pos HKO.out]; exact ⟨rfl, rfl⟩, by (repeat (first | (with_reducible exact Below.refl _ _) | ((with_reducible refine Below.alloc ?_ ?hB _); (case hB => (first | omega | (simp; done) | (simp; omega)))) | ((with_reducible refine Below.setCell ?_ ?hB _); (case hB => (first | omega | (simp; done) | (simp; omega)))) | (with_reducible refine Below.drew ?_) | ((with_reducible refine below_ext_of ?_ ?hB); (case hB => (first | omega | (simp; done) | (simp; omega)))) | ((with_reducible refine Below.trans ?_ (Below.mono (by assumption) ?hB)); (case hB => (first | omega | (simp; done) | (simp; omega))))))⟩
  · have HKO := Lib.hid (show (k ∉ l ∨ o ∉ l) from .inl hk)
    have hk0 : rk < 0 := by rw [← hrk]; exact atP_neg.2 hk
    clear hrk hro hk hrow
    go_enter Try.func70, Try.ntmps70
    go_wp2_with (first | (go_at_call 47; (with_reducible refine (cK _ ?_).mono ?_); (focus ((repeat (first | (with_reducible exact Below.refl _ _) | ((with_reducible refine Below.alloc ?_ ?hB _); (case hB => (first | omega | (simp; done) | (simp; omega)))) | ((with_reducible refine Below.setCell ?_ ?hB _); (case hB => (first | omega | (simp; done) | (simp; omega)))) | (with_reducible refine Below.drew ?_) | ((with_reducible refine below_ext_of ?_ ?hB); (case hB => (first | omega | (simp; done) | (simp; omega)))) | ((with_reducible refine Below.trans ?_ (Below.mono (by assumption) ?hB)); (case hB => (first | omega | (simp; done) | (simp; omega)))))); done)); rintro e w2 ⟨rfl, hb2⟩; have hz2 := hb2.size; (try simp only [World.size_alloc] at hz2); obtain ⟨hc2, hf2⟩ := bcell hb2) | (go_at_call 47; (with_reducible refine (cO _ ?_).mono ?_); (focus ((repeat (first | (with_reducible exact Below.refl _ _) | ((with_reducible refine Below.alloc ?_ ?hB _); (case hB => (first | omega | (simp; done) | (simp; omega)))) | ((with_reducible refine Below.setCell ?_ ?hB _); (case hB => (first | omega | (simp; done) | (simp; omega)))) | (with_reducible refine Below.drew ?_) | ((with_reducible refine below_ext_of ?_ ?hB); (case hB => (first | omega | (simp; done) | (simp; omega)))) | ((with_reducible refine Below.trans ?_ (Below.mono (by assumption) ?hB)); (case hB => (first | omega | (simp; done) | (simp; omega)))))); done)); rintro e w3 ⟨rfl, hb3⟩; have hz3 := hb3.size; (try simp only [World.size_alloc] at hz3); obtain ⟨hc3, hf3⟩ := bcell hb3))
    go_ret2
    exact ⟨_, _, rfl, by rw [if_pos HKO.out]; exact ⟨rfl, rfl⟩, by (repeat (first | (with_reducible exact Below.refl _ _) | ((with_reducible refine Below.alloc ?_ ?hB _); (case hB => (first | omega | (simp; done) | (simp; omega)))) | ((with_reducible refine Below.setCell ?_ ?hB _); (case hB => (first | omega | (simp; done) | (simp; omega)))) | (with_reducible refine Below.drew ?_) | ((with_reducible refine below_ext_of ?_ ?hB); (case hB => (first | omega | (simp; done) | (simp; omega)))) | ((with_reducible refine Below.trans ?_ (Below.mono (by assumption) ?hB)); (case hB => (first | omega | (simp; done) | (simp; omega))))))⟩
end Go.Proofs.Yteldbnelfeiifaa
