/- A buffer that is made, walked. -/
import Derived.Test.YtbkhcdmmnlkhdaaGreatKeep
namespace Go.Proofs.YtbkhcdmmnlkhdaaGreat
open Go.RowKit Go.Maps Go.Proofs.YtbkhcdmmnlkhdaaGreatW.PrintWords
set_option linter.unusedSimpArgs false
set_option linter.unusedVariables false
set_option maxRecDepth 1000000
theorem findP_not {l : List (Int × Bf)} {id : Int} (h : (findP l id).2 ≠ 0) : ∀ e ∈ l, ¬ (e.2.named = true ∧ e.2.id = id) := by
  induction l with
  | nil => intro e he; cases he
  | cons y l ih =>
    simp only [findP] at h
    split at h
    · exact absurd rfl h
    · rename_i hy
      intro e he
      rcases List.mem_cons.1 he with rfl | he
      · exact hy
      · exact ih h e he
theorem lookB_none {l : List (Int × Bf)} {x : Int} : x ∉ l.map (·.1) ↔ lookB l x = none := by
  induction l with
  | nil => simp [lookB]
  | cons e l ih =>
    simp only [lookB, List.map_cons, List.mem_cons, not_or]
    by_cases h : e.1 = x
    · rw [if_pos h]; simp [h]
    · rw [if_neg h, ih]
      have h' : ¬ x = e.1 := fun e => h e.symm
      simp [h']
theorem lookB_snoc (l : List (Int × Bf)) (x : Int) (f : Bf) (y : Int) (h : x ∉ l.map (·.1)) : lookB (l ++ [(x, f)]) y = if x = y then some f else lookB l y := by
  induction l with
  | nil => simp [lookB]
  | cons e L ih =>
    simp only [List.map_cons, List.mem_cons, not_or] at h
    simp only [List.cons_append, lookB]
    rw [ih h.2]
    by_cases h1 : e.1 = y
    · rw [if_pos h1, if_neg (fun e2 => h.1 (e2.trans h1.symm)), if_pos h1]
    · rw [if_neg h1, if_neg h1]
theorem PolL.put {D : DataW Unit} {l : List (Int × Bf)} (h : PolL D l) (hT : Tidy D) (x : Int) (f : Bf) (hx : x ∉ l.map (·.1)) : PolL (D.put (.int .i64 x) (.lit (.int .i64 f.b))) (l ++ [(x, f)]) := by
  have hin : ∀ y, Maps.has (D.put (.int .i64 x) (.lit (.int .i64 f.b))) (.int .i64 y) = (lookB (l ++ [(x, f)]) y).isSome := fun y => by
    rw [lookB_snoc l x f y hx]
    by_cases hy : x = y
    · subst hy
      rw [has_put_same hT.isMap (isKeyI x)]; simp
    · rw [has_put_other (key_ne (fun e => hy e.symm)), h.in_, if_neg hy]
  refine ⟨fun y g hg z => ?_, fun y hy => by rw [hin, hy]; rfl, hin⟩
  rw [lookB_snoc l x f y hx] at hg
  by_cases hy : x = y
  · subst hy
    rw [if_pos rfl] at hg
    injection hg with hg
    subst hg
    rw [atKey_put_same hT.isMap (isKeyI x)]
  · rw [if_neg hy] at hg
    rw [atKey_put_other (key_ne (fun e => hy e.symm)), h.at_ y g hg]
def makeE (l : List (Int × Bf)) (id W H : Int) : Int := if (findP l id).2 = 0 then 6 else newE W H
def MakeP (w : World) (p pm n : Nat) (next : Int) (l : List (Int × Bf)) (id W H : Int) (e : Ending) (w' : World) : Prop :=
  (makeE l id W H ≠ 0 → e = .returned (.tuple #[.int .i64 (-1), .int .i64 (makeE l id W H)]) ∧ Below w.heap.size w w') ∧
  (makeE l id W H = 0 → ∃ b m v, e = .returned (.tuple #[.int .i64 next, .int .i64 0]) ∧ PoolI w' p pm (n + 1) (next + 1) (l ++ [(next, ⟨b, id, true, some ⟨m, 0, none⟩, 0⟩)]) ∧ Img w' w.heap.size m v W.toNat H.toNat (List.replicate (W.toNat * H.toNat) 0) ∧ w.heap.size ≤ b ∧ w.heap.size ≤ m ∧ KeepF (fun k => k = p ∨ k = pm) w w')
set_option maxHeartbeats 1000000 in
theorem pool_Make (p pm n : Nat) (next : Int) (l : List (Int × Bf)) (id W H : Int) (w : World) (h : PoolI w p pm n next l) (hn : n ≤ 100000) (hx0 : 0 ≤ next) (hx1 : next ≤ 1000000) (hW : -9223372036854775808 ≤ W ∧ W ≤ 9223372036854775807) (hH : -9223372036854775808 ≤ H ∧ H ≤ 9223372036854775807) (hid : -9223372036854775808 ≤ id ∧ id ≤ 9223372036854775807) : Calls Tryz.prog 86 #[(.pointer (some ⟨p, 0, none⟩)), .int .i64 id, .int .i64 W, .int .i64 H] w (MakeP w p pm n next l id W H) := by
  have cF := pool_Find p pm n next l id w h
  obtain ⟨⟨k, ee⟩, hq⟩ : ∃ q, findP l id = q := ⟨_, rfl⟩
  rw [hq] at cF
  have hq := Lib.hid hq
  replace cF : Calls Tryz.prog 87 #[(.pointer (some ⟨p, 0, none⟩)), .int .i64 id] w (fun e w' => e = .returned (.tuple #[.int .i64 k, .int .i64 ee]) ∧ Below w.heap.size w w') := cF
  have c0 := (blk_cell h.blk 0).trans rfl
  have c1 := (blk_cell h.blk 1).trans rfl
  have HH := Lib.hid h
  have hp := blk_lt h.blk
  have f0 : w.frozen? ⟨p, 0, none⟩ = false := blk_frozen h.blk 0
  by_cases hee : ee = 0
  · subst hee
    have HE := Lib.hid (show makeE l id W H = 6 from by unfold makeE; rw [hq.out, if_pos rfl])
    clear h
    go_enter Tryz.func86, Tryz.ntmps86
    go_wp2_with (first | (go_at_call 87; (with_reducible refine (cF).mono ?_); rintro e w1 ⟨rfl, hb1⟩; obtain ⟨hc1, hf1⟩ := bcell hb1; have hz1 := hb1.size; (try simp only [World.size_alloc, World.size_setCell, World.size_drew] at hz1)))
    go_ret2
    refine ⟨fun _ => ⟨by rw [HE.out]; rfl, by (repeat (first | (with_reducible exact Below.refl _ _) | ((with_reducible refine Below.alloc ?_ ?hB _); (case hB => (first | omega | (simp; done) | (simp; omega)))) | ((with_reducible refine Below.setCell ?_ ?hB _); (case hB => (first | omega | (simp; done) | (simp; omega)))) | (with_reducible refine Below.drew ?_) | ((with_reducible refine below_ext_of ?_ ?hB); (case hB => (first | omega | (simp; done) | (simp; omega)))) | ((with_reducible refine Below.trans ?_ (Below.mono (by assumption) ?hB)); (case hB => (first | omega | (simp; done) | (simp; omega))))))⟩, fun h => by rw [HE.out] at h; cases h⟩
  · have hee' : (ee == 0) = false := by rw [beq_eq_false_iff_ne]; exact hee
    have HM : Hid (makeE l id W H = newE W H) := Lib.hid (by unfold makeE; rw [hq.out, if_neg hee])
    have HN := Lib.hid (findP_not (l := l) (id := id) (by rw [hq.out]; exact hee))
    clear hee
    by_cases hE : newE W H = 0
    · obtain ⟨D, hown, hL⟩ := h.own
      have hpm := map_ne hown h.blk
      have hxn : next ∉ l.map (·.1) := fun hm => by
        obtain ⟨e, he, e1⟩ := List.mem_map.1 hm
        have := h.low e he
        omega
      have HO := Lib.hid hown
      have HL := Lib.hid (fun f => hL.put (hown.tidy kInt) next f hxn)
      have HP := Lib.hid hpm
      have HZ := Lib.hid hE
      have hkey := keyOf_int_mk Tryz.underlying3 (show (Lit.int .i64 next).wf = true from WalkArith.wf_i64 (by omega))
      have cN := fun w => image_New W H w hW hH
      clear h hown hL hpm hE
      go_enter Tryz.func86, Tryz.ntmps86
      go_wp2_with (first
        | (go_at_call 87; (with_reducible refine (cF).mono ?_); rintro e w1 ⟨rfl, hb1⟩; obtain ⟨hc1, hf1⟩ := bcell hb1; have hz1 := hb1.size; (try simp only [World.size_alloc, World.size_setCell, World.size_drew] at hz1))
        | (go_at_call 129; (with_reducible refine (cN _).mono ?_); rintro e w2 ⟨hb2, hno, hok⟩; clear hno; obtain ⟨rfl, himg⟩ := hok HZ.out; clear hok; obtain ⟨hc2, hf2⟩ := bcell hb2; have hz2 := hb2.size; (try simp only [World.size_alloc, World.size_setCell, World.size_drew] at hz2))
        | (at_mapUpdate; refine wpList_mapUpdate_in _ rfl _ _ _ 131 rfl 3 158 kInt Tryz.underlying131 _ pm n D rfl (HO.out.kept (row := some p) ((grown_below hb1 _).trans ((grown_below hb2 _).trans ((grown_cell p 0 _).trans (World.grownBy_alloc _ _ _)))) (fun e => HP.out (by injection e with e; exact e.symm))) (by unfold maxLen; omega) _ _ _ rfl rfl hkey _ [] (elemP_mk _) ?_; intro w3 hown3 hturn3))
      go_ret2
      have hg3 := hturn3.grown
      have hk : KeepF (fun k => k = p ∨ k = pm) w w3 := ((((KeepF.of_below' hb1).below_step hb2).setCell p 0 _ (fun _ => Or.inl rfl)).alloc _).grown_step hg3 (fun k e _ => Or.inr (by injection e with e; exact e.symm))
      have hne : ∀ {k : Nat}, k ≠ pm → some k ≠ some pm := fun h e => h (by injection e)
      have hpm2 : pm < w.heap.size := HO.out.lt
      refine ⟨fun h => absurd (HM.out.trans HZ.out) h, fun _ => ⟨w2.heap.size, w1.heap.size + 1, .slice (some ⟨w1.heap.size, 0, none⟩) (W.toNat * H.toNat) (W.toNat * H.toNat), rfl, ⟨?_, ⟨_, hown3, by have := HL.out ⟨w2.heap.size, id, true, some ⟨w1.heap.size + 1, 0, none⟩, 0⟩; simpa using this⟩, ?_, ?_, ?_, ?_⟩, ?_, ?_, ?_, hk⟩⟩
      · exact (hg3.block p (by simp; omega) (hne HP.out)).trans (blk_alloc (blk_set (blk_below (blk_below HH.out.blk hb1) hb2) 0 _) _)
      · intro e he
        rcases List.mem_append.1 he with he | he
        · refine hk.blk (HH.out.bufs e he) ?_
          rintro (h1 | h1)
          · exact blk_ne (HH.out.bufs e he) HH.out.blk (by decide) h1
          · exact map_ne HO.out (HH.out.bufs e he) h1
        · simp only [List.mem_singleton] at he
          subst he
          refine (hg3.block w2.heap.size (by simp) (hne (by omega))).trans ?_
          have := blk_new (w2.setCell ⟨p, 0, none⟩ (.int .i64 (next + 1))) (.cells #[.int .i64 id, .bool true, (.pointer (some ⟨w1.heap.size + 1, 0, none⟩)), .int .i64 0] 160)
          rw [World.size_setCell] at this
          exact this
      · rw [List.map_append, List.map_cons, List.map_nil, List.nodup_append]
        refine ⟨HH.out.keys, by simp, fun a ha b hb => ?_⟩
        simp only [List.mem_singleton] at hb
        subst hb
        exact fun e => hxn (e ▸ ha)
      · intro e he
        rcases List.mem_append.1 he with he | he
        · have := HH.out.low e he; omega
        · simp only [List.mem_singleton] at he
          subst he
          show next < next + 1
          omega
      · intro e he e' he' h1 h2 h3
        rcases List.mem_append.1 he with he | he
        · rcases List.mem_append.1 he' with he' | he'
          · exact HH.out.names e he e' he' h1 h2 h3
          · simp only [List.mem_singleton] at he'
            subst he'
            exact absurd ⟨h1, h3⟩ (HN.out e he)
        · simp only [List.mem_singleton] at he
          subst he
          rcases List.mem_append.1 he' with he' | he'
          · exact absurd ⟨h2, h3.symm⟩ (HN.out e' he')
          · simp only [List.mem_singleton] at he'
            exact he'.symm
      · have hi := himg.lower hz1
        have hk2 : KeepF (fun k => k = p ∨ k = pm) w2 w3 := (((KeepF.refl _ w2).setCell p 0 _ (fun _ => Or.inl rfl)).alloc _).grown_step hg3 (fun k e _ => Or.inr (by injection e with e; exact e.symm))
        refine hi.keep hk2 (by rintro (h | h) <;> omega) (fun b h => ?_)
        have h : some w1.heap.size = some b := h
        injection h with h
        subst h
        rintro (h | h) <;> omega
      · omega
      · omega
    · have hE' : (newE W H == 0) = false := by rw [beq_eq_false_iff_ne]; exact hE
      have cN : ∀ w, Calls Tryz.prog 129 #[.int .i64 W, .int .i64 H] w fun e w' => e = .returned (.tuple #[.pointer none, .int .i64 1]) ∧ Below w.heap.size w w' := fun w => (image_New W H w hW hH).mono fun e w' h => ⟨h.2.1 hE, h.1⟩
      have HE : Hid (makeE l id W H = 1) := Lib.hid (by rw [HM.out]; unfold newE at hE ⊢; split; rfl; rename_i h; rw [if_neg h] at hE; exact absurd rfl hE)
      clear h hE hE'
      go_enter Tryz.func86, Tryz.ntmps86
      go_wp2_with (first | (go_at_call 87; (with_reducible refine (cF).mono ?_); rintro e w1 ⟨rfl, hb1⟩; obtain ⟨hc1, hf1⟩ := bcell hb1; have hz1 := hb1.size; (try simp only [World.size_alloc, World.size_setCell, World.size_drew] at hz1)) | (go_at_call 129; (with_reducible refine (cN _).mono ?_); rintro e w1 ⟨rfl, hb1⟩; obtain ⟨hc1, hf1⟩ := bcell hb1; have hz1 := hb1.size; (try simp only [World.size_alloc, World.size_setCell, World.size_drew] at hz1)))
      go_ret2
      refine ⟨fun _ => ⟨by rw [HE.out]; rfl, by (repeat (first | (with_reducible exact Below.refl _ _) | ((with_reducible refine Below.alloc ?_ ?hB _); (case hB => (first | omega | (simp; done) | (simp; omega)))) | ((with_reducible refine Below.setCell ?_ ?hB _); (case hB => (first | omega | (simp; done) | (simp; omega)))) | (with_reducible refine Below.drew ?_) | ((with_reducible refine below_ext_of ?_ ?hB); (case hB => (first | omega | (simp; done) | (simp; omega)))) | ((with_reducible refine Below.trans ?_ (Below.mono (by assumption) ?hB)); (case hB => (first | omega | (simp; done) | (simp; omega))))))⟩, fun h => by rw [HE.out] at h; cases h⟩
end Go.Proofs.YtbkhcdmmnlkhdaaGreat
