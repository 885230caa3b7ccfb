/- The ids of a kind, walked. -/
import Derived.Test.YtbkhcdmmnlkhdaaGreatSrt
import Derived.Test.YtbkhcdmmnlkhdaaGreatCliD
namespace Go.Proofs.YtbkhcdmmnlkhdaaGreat
open Go.RowKit Go.Maps Go.Proofs.YtbkhcdmmnlkhdaaGreatW.PrintWords
set_option linter.unusedSimpArgs false
set_option linter.unusedVariables false
set_option maxRecDepth 1000000
theorem info_intB : (Tryz.prog.info? 3).map (fun i => (i.zero, i.size, i.bytes)) = some (some (.int .i64 0), 1, 8) := by kernel_rfl
/-- The ids of a kind, in a row. -/
def idsK (L : List (Int × Int)) (k : Int) : List Int := sorted ((L.filter (fun e => e.2 == k)).map (·.1))
theorem sorted_perm {xs ys : List Int} (h : xs.Perm ys) : sorted xs = sorted ys := by
  unfold sorted
  have hp : (xs.mergeSort fun x y => decide (x ≤ y)).Perm (ys.mergeSort fun x y => decide (x ≤ y)) := (List.mergeSort_perm _ _).trans (h.trans (List.mergeSort_perm _ _).symm)
  have tr : ∀ a b c : Int, decide (a ≤ b) = true → decide (b ≤ c) = true → decide (a ≤ c) = true := fun a b c h1 h2 => decide_eq_true (Int.le_trans (of_decide_eq_true h1) (of_decide_eq_true h2))
  have tot : ∀ a b : Int, (decide (a ≤ b) || decide (b ≤ a)) = true := fun a b => by rcases Int.le_total a b with h | h <;> simp [h]
  exact List.Perm.eq_of_pairwise (le := fun x y => decide (x ≤ y) = true) (fun a b _ _ h1 h2 => Int.le_antisymm (of_decide_eq_true h1) (of_decide_eq_true h2)) (List.pairwise_mergeSort tr tot xs) (List.pairwise_mergeSort tr tot ys) hp
theorem kindL_of {L : List (Int × Int)} (hnd : (L.map (·.1)).Nodup) {e : Int × Int} (h : e ∈ L) : kindL L e.1 = e.2 := by
  induction L with
  | nil => cases h
  | cons y L ih =>
    simp only [kindL]
    rcases List.mem_cons.1 h with rfl | h
    · rw [if_pos rfl]
    · rw [List.map_cons, List.nodup_cons] at hnd
      rw [if_neg (fun he => hnd.1 (by rw [he]; exact List.mem_map_of_mem h)), ih hnd.2 h]
theorem of_final {L : List (Int × Int)} {k : Int} {xs : List Int} (hnd : (L.map (·.1)).Nodup) (hx : xs.Nodup) (h1 : ∀ x ∈ xs, (x, k) ∈ L) (h2 : ∀ e ∈ L, e.2 = k → e.1 ∈ xs) : sorted xs = idsK L k := by
  refine sorted_perm ((List.perm_ext_iff_of_nodup hx ?_).2 (fun x => ?_))
  · exact (List.Sublist.map _ (List.filter_sublist)).nodup hnd
  · constructor
    · intro h
      exact List.mem_map.2 ⟨_, List.mem_filter.2 ⟨h1 x h, by simp⟩, rfl⟩
    · intro h
      obtain ⟨e, he, rfl⟩ := List.mem_map.1 h
      obtain ⟨he, hk⟩ := List.mem_filter.1 he
      exact h2 e he (by simpa using hk)
theorem kindL_mem {L : List (Int × Int)} {x : Int} (h : x ∈ L.map (·.1)) : (x, kindL L x) ∈ L := by
  induction L with
  | nil => cases h
  | cons e L ih =>
    simp only [kindL]
    by_cases h1 : e.1 = x
    · rw [if_pos h1]; subst h1; exact List.mem_cons_self ..
    · rw [if_neg h1]
      rcases List.mem_cons.1 h with h | h
      · exact absurd h.symm h1
      · exact List.mem_cons_of_mem _ (ih h)
theorem nodup_le : ∀ {xs ys : List Int}, xs.Nodup → (∀ x ∈ xs, x ∈ ys) → xs.length ≤ ys.length
  | [], _, _, _ => Nat.zero_le _
  | x :: xs, ys, hn, hs => by
    rw [List.nodup_cons] at hn
    have h1 := nodup_le (xs := xs) (ys := ys.erase x) hn.2 (fun y hy => (List.mem_erase_of_ne (fun e => hn.1 (by rw [← e]; exact hy))).2 (hs y (List.mem_cons_of_mem _ hy)))
    have h2 := List.length_erase_of_mem (hs x (List.mem_cons_self ..))
    have h3 := List.length_pos_of_mem (hs x (List.mem_cons_self ..))
    simp only [List.length_cons]
    omega
def OfP (w : World) (l : List Int) (e : Ending) (w' : World) : Prop := ∃ v, e = .returned v ∧ w'.ownsRow w.heap.size 3 1 v l.length (nums .i64 l) ∧ Below w.heap.size w w'
set_option maxHeartbeats 1000000 in
theorem ids_Of (p bm n : Nat) (L : List (Int × Int)) (k : Int) (w : World) (h : Tab w p bm n L) (hnd : (L.map (·.1)).Nodup) (hl : L.length ≤ 1000) : Calls Tryz.prog 32 #[(.pointer (some ⟨p, 0, none⟩)), .int .i64 k] w (OfP w (idsK L k)) := by
  obtain ⟨hb, D, hown, hL⟩ := h
  have c1 := (blk_cell hb 1).trans rfl
  have HL := Lib.hid hL
  have HN := Lib.hid hnd
  have cS := ints_Sort
  have hp := blk_lt hb
  have hbm := hown.lt
  have ho0 : w.ownsRow w.heap.size 3 1 (.slice none 0 0) ([] : List Int).length (nums .i64 []) := own_nil _ _ _ _
  clear hb hL hnd
  go_enter Tryz.func32, Tryz.ntmps32
  go_wp2_with (first
    | (at_range; refine wpList_range_own _ rfl _ 128 rfl 3 3 kInt Tryz.underlying128 _ bm n D rfl hown ?_; intro w0 hrg0 hg0 hs0)
    | go_in)
  go_frame
  go_loopw [5] (fun v wr => ∃ (left : Lit → Bool) (cnt : Nat) (xs : List Int), wr.ranges Tryz.prog 3 (plainElem Tryz.prog 3) bm w.heap.size n D left cnt ∧ Hid (xs.length ≤ 1000) ∧ Hid (wr.ownsRow (w.heap.size + 1) 3 1 v xs.length (nums .i64 xs)) ∧ Hid ((∀ kl, left kl = true → Maps.has D kl = true) ∧ xs.Nodup ∧ (∀ x ∈ xs, (x, k) ∈ L ∧ left (.int .i64 x) = false) ∧ ∀ e ∈ L, e.2 = k → left (.int .i64 e.1) = true ∨ e.1 ∈ xs) ∧ Hid (Below w.heap.size w wr)) (fun _ wr => wr.rangeLeft bm w.heap.size)
  case atStart =>
    refine ⟨_, _, [], hrg0, Lib.hid (by simp), Lib.hid (own_nil _ _ _ _), Lib.hid ⟨fun _ h => h, List.nodup_nil, fun x h => (by cases h), fun e he _ => .inl ?_⟩, Lib.hid ⟨hg0.os, hg0.tape, hg0.output, hg0.size, fun k hk => hg0.block k hk (by simp)⟩⟩
    rw [HL.out.has_]
    exact decide_eq_true (List.mem_map_of_mem he)
  case round =>
    obtain ⟨left, cnt, xs, hrg, hxl, ho, hi, hb⟩ := hrel
    go_wp2_with (first
      | (at_next; refine wpList_next_ranges_ii _ rfl _ rfl 3 3 .i64 .i64 kInt Tryz.underlying3 Tryz.underlying3 bm w.heap.size n _ _ _ rfl hrg ?_ ?_)
      | go_in)
    · intro _ hl0
      go_wp2_with (first | (go_at_call 65; (with_reducible refine (cS _ _ _ _ _ (by have := hxl.out; omega) ho.out).mono ?_); rintro e w2 ⟨rfl, ho2, hg2⟩))
      go_ret
      have hf : sorted xs = idsK L k := of_final HN.out hi.out.2.1 (fun x hx => (hi.out.2.2.1 x hx).1) (fun e he hk => by
        rcases hi.out.2.2.2 e he hk with h | h
        · rw [hl0] at h; cases h
        · exact h)
      refine ⟨_, rfl, ?_, hb.out.grown hg2 hb.out.size (fun j hj => Nat.le_of_succ_le (own_base ho.out j hj))⟩
      rw [← hf, sorted_len]
      exact own_lower ho2 (Nat.le_succ _)
    · intro x c w1 cnt1 hwx hwc hlx hat hrg1 hlt hg1 hs1 hen
      have hc : c = kindL L x := by
        have h1 := (hat (.lit (.int .i64 0))).symm.trans (HL.out.at_ x)
        injection h1 with h1
        injection h1
      have hin : x ∈ L.map (·.1) := by
        have h1 := hi.out.1 _ hlx
        rw [HL.out.has_] at h1
        exact of_decide_eq_true h1
      have hb1 : Below w.heap.size w w1 := hb.out.grown hg1 hb.out.size (fun k e => by cases e; exact Nat.le_refl _)
      have hcm : (x, c) ∈ L := by rw [hc]; exact kindL_mem hin
      have ho1 := ho.out.kept hg1 (Or.inr (fun e => by have := own_base ho.out _ e; omega))
      have hi1 : (∀ kl, (left kl && !kl.sameKey (.int .i64 x)) = true → Maps.has D kl = true) := fun kl h => hi.out.1 kl (by simp at h; exact h.1)
      have hlf : ∀ y ∈ xs, (left (.int .i64 y) && !(Lit.int .i64 y).sameKey (.int .i64 x)) = false := fun y hy => by rw [(hi.out.2.2.1 y hy).2]; rfl
      have hsame : (left (.int .i64 x) && !(Lit.int .i64 x).sameKey (.int .i64 x)) = false := by simp [Lit.sameKey]
      have hxx : x ∉ xs := fun hm => by have := (hi.out.2.2.1 x hm).2; rw [hlx] at this; cases this
      have hleft : ∀ e ∈ L, e.1 ≠ x → left (.int .i64 e.1) = true → (left (.int .i64 e.1) && !(Lit.int .i64 e.1).sameKey (.int .i64 x)) = true := fun e _ hne h => by rw [h, same_ne hne]; rfl
      have hL0 := Lib.hid hi.out
      have HB1 := Lib.hid hb1
      have HO1 := Lib.hid ho1
      have HR := Lib.hid hrg1
      have HG := Lib.hid hrg
      have HX := Lib.hid (And.intro hi1 (And.intro hlf (And.intro hsame (And.intro hxx hleft))))
      have hxl0 := hxl.out
      have hz1 := hb1.size
      have hzL := hrg1.lt
      clear hs1 hi hb ho hi1 hlf hsame hxx hleft hrg1 hrg hb1 ho1 hlx hat hc hin
      have hcm := Lib.hid hcm
      by_cases hck : c = k
      · have hck1 : (c == k) = true := by rw [hck]; simp
        go_wp2_with (first
          | (at_builtin; refine print_append_cells (w0 := w1) (w.heap.size + 1) rfl _ _ 40 3 (.int .i64 0) 1 8 rfl Tryz.underlying40 info_intB rfl (by decide) (by decide) _ xs.length (nums .i64 xs) [.int .i64 x] rfl rfl rfl (by simp [Value.oneCell']) ?_ (Below.refl _ _) (by omega) (by omega) ?_; (focus (exact HO1.out)); intro v2 w2 ho2 hb2 hg2 hv2)
          | go_in)
        go_roundw
        case rel =>
          refine ⟨_, cnt1, xs ++ [x], HR.out.kept hg2 ?_ ?_, Lib.hid ?_, Lib.hid ?_, Lib.hid ?_, Lib.hid (HB1.out.grown hg2 HB1.out.size (fun j hj => Nat.le_of_succ_le (own_base HO1.out j hj)))⟩
          · have := HR.out.owns.lt
            intro e
            have h1 := own_base HO1.out _ e.symm
            omega
          · intro e
            have h1 := own_base HO1.out _ e.symm
            omega
          · have : ∀ y ∈ xs ++ [x], y ∈ L.map (·.1) := fun y hy => by
              rcases List.mem_append.1 hy with h | h
              · exact List.mem_map.2 ⟨_, (hL0.out.2.2.1 y h).1, rfl⟩
              · simp only [List.mem_singleton] at h; subst h; exact List.mem_map.2 ⟨_, hcm.out, rfl⟩
            have hnd : (xs ++ [x]).Nodup := by
              rw [List.nodup_append]
              exact ⟨hL0.out.2.1, by simp, fun a ha b hb => by simp only [List.mem_singleton] at hb; subst hb; exact fun e => HX.out.2.2.2.1 (e ▸ ha)⟩
            have h2 := nodup_le hnd this
            rw [List.length_map] at h2
            omega
          · have e1 : (xs ++ [x]).length = xs.length + 1 := by simp
            rw [e1, show nums .i64 (xs ++ [x]) = nums .i64 xs ++ [.int .i64 x] from by simp [nums]]
            exact ho2
          · refine ⟨HX.out.1, ?_, fun y hy => ?_, fun e he hk => ?_⟩
            · rw [List.nodup_append]
              exact ⟨hL0.out.2.1, by simp, fun a ha b hb => by simp only [List.mem_singleton] at hb; subst hb; exact fun e => HX.out.2.2.2.1 (e ▸ ha)⟩
            · rcases List.mem_append.1 hy with h | h
              · exact ⟨(hL0.out.2.2.1 y h).1, HX.out.2.1 y h⟩
              · simp only [List.mem_singleton] at h
                subst h
                exact ⟨by rw [← hck]; exact hcm.out, HX.out.2.2.1⟩
            · by_cases hex : e.1 = x
              · exact .inr (by rw [hex]; simp)
              · exact (hL0.out.2.2.2 e he hk).imp (HX.out.2.2.2.2 e he hex) (fun h => List.mem_append_left _ h)
        case measure =>
          have hr2 := HR.out.kept hg2 (fun e => by have h1 := own_base HO1.out _ e.symm; have := HL; omega) (fun e => by have h1 := own_base HO1.out _ e.symm; omega)
          rw [hr2.left_eq, HG.out.left_eq]; exact hlt
      · have hck1 : (c == k) = false := by rw [beq_eq_false_iff_ne]; exact hck
        go_wp2
        go_roundw
        case rel =>
          refine ⟨_, cnt1, xs, HR.out, Lib.hid hxl0, HO1, Lib.hid ⟨HX.out.1, hL0.out.2.1, fun y hy => ⟨(hL0.out.2.2.1 y hy).1, HX.out.2.1 y hy⟩, fun e he hk => ?_⟩, HB1⟩
          by_cases hex : e.1 = x
          · exact absurd (by rw [← hk, ← kindL_of HN.out he, hex, kindL_of HN.out hcm.out]) hck
          · exact (hL0.out.2.2.2 e he hk).imp (HX.out.2.2.2.2 e he hex) id
        case measure => rw [HR.out.left_eq, HG.out.left_eq]; exact hlt
theorem cli_Buffers (c : Nat) (s : CS) (w : World) (h : Cli w c s) (hnd : (s.L.map (·.1)).Nodup) (hl : s.L.length ≤ 1000) : Calls Tryz.prog 13 #[(.pointer (some ⟨c, 0, none⟩))] w (OfP w (idsK s.L 1)) := by
  have c0 := (blk_cell h.blk 0).trans rfl
  have cO := ids_Of s.t s.bm s.tn s.L 1 w h.tab hnd hl
  clear h hnd hl
  go_enter Tryz.func13, Tryz.ntmps13
  go_wp2_with (go_at_call 32; (with_reducible refine cO.mono ?_); rintro e w2 ⟨v, rfl, ho2, hb2⟩)
  go_ret
  exact ⟨_, rfl, ho2, hb2⟩
theorem cli_Surfaces (c : Nat) (s : CS) (w : World) (h : Cli w c s) (hnd : (s.L.map (·.1)).Nodup) (hl : s.L.length ≤ 1000) : Calls Tryz.prog 14 #[(.pointer (some ⟨c, 0, none⟩))] w (OfP w (idsK s.L 2)) := by
  have c0 := (blk_cell h.blk 0).trans rfl
  have cO := ids_Of s.t s.bm s.tn s.L 2 w h.tab hnd hl
  clear h hnd hl
  go_enter Tryz.func14, Tryz.ntmps14
  go_wp2_with (go_at_call 32; (with_reducible refine cO.mono ?_); rintro e w2 ⟨v, rfl, ho2, hb2⟩)
  go_ret
  exact ⟨_, rfl, ho2, hb2⟩
end Go.Proofs.YtbkhcdmmnlkhdaaGreat
