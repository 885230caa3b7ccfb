/- An event made of any may be; its bytes; the document's example of layer 10. -/
import Derived.Test.YtinnaiofgbjicaaDoorEvG
namespace Go.Proofs.YtinnaiofgbjicaaDoor
open Go.RowKit Go.Proofs.YtinnaiofgbjicaaDoorW.PrintWords
set_option linter.unusedSimpArgs false
set_option linter.unusedVariables false
set_option maxRecDepth 1000000
theorem putOk_u (n : Int) (h : 0 ≤ n ∧ n ≤ 4294967295) : putOk 117 (vI n) = true := by
  unfold putOk fitI; rw [decide_eq_true_iff]; left; exact ⟨rfl, decide_eq_true (.inr ⟨rfl, h.1, by show n < 4294967296; omega⟩)⟩
theorem putOk_i (n : Int) (h : -2147483648 ≤ n ∧ n ≤ 2147483647) : putOk 105 (vI n) = true := by
  unfold putOk fitI; rw [decide_eq_true_iff]; left; exact ⟨rfl, decide_eq_true (.inl ⟨rfl, h.1, by show n < 2147483648; omega⟩)⟩
theorem vI_len (n : Int) : (putB (vI n)).length ≤ 21 := by rw [putB0 rfl]; simp [b4]
theorem fit_pack (e : E4) (h0 : 0 ≤ e.k ∧ e.k ≤ 5) (hu : (e.k = 0 ∨ e.k = 3) → (0 ≤ e.a ∧ e.a ≤ 4294967295) ∧ (0 ≤ e.b ∧ e.b ≤ 4294967295)) (h1 : e.k = 1 → 0 ≤ e.a ∧ e.a ≤ 4294967295)
    (h4 : e.k = 4 → (-2147483648 ≤ e.a ∧ e.a ≤ 2147483647) ∧ (-2147483648 ≤ e.b ∧ e.b ≤ 2147483647)) : packP (formE e.k) (argsE e) = (0, bodyE e) := by
  obtain ⟨k, id, a, b⟩ := e
  simp only at *
  rcases (show k = 0 ∨ k = 1 ∨ k = 2 ∨ k = 3 ∨ k = 4 ∨ k = 5 by omega) with rfl | rfl | rfl | rfl | rfl | rfl
  · obtain ⟨ha, hb⟩ := hu (.inl rfl)
    refine pack_ok (by decide +kernel) rfl fun i hi => ?_
    rcases (show i = 0 ∨ i = 1 by have : i < 2 := hi; omega) with rfl | rfl
    · exact ⟨putOk_u a ha, vI_len a⟩
    · exact ⟨putOk_u b hb, vI_len b⟩
  · have ha := h1 rfl
    refine pack_ok (by decide +kernel) rfl fun i hi => ?_
    rcases (show i = 0 by have : i < 1 := hi; omega) with rfl
    exact ⟨putOk_u a ha, vI_len a⟩
  · refine pack_ok (by decide +kernel) rfl fun i hi => ?_
    exact absurd hi (by show ¬ i < 0; omega)
  · obtain ⟨ha, hb⟩ := hu (.inr rfl)
    refine pack_ok (by decide +kernel) rfl fun i hi => ?_
    rcases (show i = 0 ∨ i = 1 by have : i < 2 := hi; omega) with rfl | rfl
    · exact ⟨putOk_u a ha, vI_len a⟩
    · exact ⟨putOk_u b hb, vI_len b⟩
  · obtain ⟨ha, hb⟩ := h4 rfl
    refine pack_ok (by decide +kernel) rfl fun i hi => ?_
    rcases (show i = 0 ∨ i = 1 by have : i < 2 := hi; omega) with rfl | rfl
    · exact ⟨putOk_i a ha, vI_len a⟩
    · exact ⟨putOk_i b hb, vI_len b⟩
  · refine pack_ok (by decide +kernel) rfl fun i hi => ?_
    exact absurd hi (by show ¬ i < 0; omega)
theorem may_mk (e : E4) (h0 : 0 ≤ e.k ∧ e.k ≤ 5) (hid : 0 ≤ e.id ∧ e.id ≤ 4294967295) (hp : packP (formE e.k) (argsE e) = (0, bodyE e)) (hb : 1 < (formE e.k).size ∨ e.b = 0) (ha : 0 < (formE e.k).size ∨ e.a = 0) (h2 : e.k ≤ 1 → 1 ≤ e.a ∧ e.a ≤ 12 ∧ e.b ≤ 255) : mayE e = true := by
  have hl := bodyE_len e
  exact decide_eq_true ⟨h0.1, h0.2, hp, decide_eq_true ⟨by omega, by omega, hid.1, hid.2, by omega⟩, hb, ha, h2⟩
theorem good_mayE (e : E4) : mayE (goodE e) = true := by
  have hk := tmU_bd e.k 6 (by omega)
  have hid := tmU_bd e.id 4294967296 (by omega)
  have ha := tmod_bd e.a 2147483648 (by omega)
  have hb := tmod_bd e.b 2147483648 (by omega)
  unfold goodE
  simp only
  generalize Int.tmod e.a 2147483648 = a at *
  generalize Int.tmod e.b 2147483648 = b at *
  generalize tmU e.id 4294967296 = id at *
  generalize tmU e.k 6 = k at *
  rcases (show k = 0 ∨ k = 1 ∨ k = 2 ∨ k = 3 ∨ k = 4 ∨ k = 5 by omega) with rfl | rfl | rfl | rfl | rfl | rfl
  · rw [if_pos rfl]
    exact may_mk _ ⟨by simp only; omega, by simp only; omega⟩ ⟨by simp only; omega, by simp only; omega⟩ (fit_pack _ ⟨by simp only; omega, by simp only; omega⟩ (fun _ => by simp only; omega) (fun h => by simp only at h; omega) (fun h => by simp only at h; omega)) (.inl (show 1 < (formE 0).size by decide)) (.inl (show 0 < (formE 0).size by decide)) (fun _ => by simp only; omega)
  · rw [if_neg (by omega), if_pos rfl]
    exact may_mk _ ⟨by simp only; omega, by simp only; omega⟩ ⟨by simp only; omega, by simp only; omega⟩ (fit_pack _ ⟨by simp only; omega, by simp only; omega⟩ (fun h => by simp only at h; omega) (fun h => by simp only; omega) (fun h => by simp only at h; omega)) (.inr rfl) (.inl (show 0 < (formE 1).size by decide)) (fun _ => by simp only; omega)
  · rw [if_neg (by omega), if_neg (by omega), if_pos rfl]
    exact may_mk _ ⟨by simp only; omega, by simp only; omega⟩ ⟨by simp only; omega, by simp only; omega⟩ (fit_pack _ ⟨by simp only; omega, by simp only; omega⟩ (fun h => by simp only at h; omega) (fun h => by simp only at h; omega) (fun h => by simp only at h; omega)) (.inr rfl) (.inr rfl) (fun h => by simp only at h; omega)
  · rw [if_neg (by omega), if_neg (by omega), if_neg (by omega), if_pos rfl]
    exact may_mk _ ⟨by simp only; omega, by simp only; omega⟩ ⟨by simp only; omega, by simp only; omega⟩ (fit_pack _ ⟨by simp only; omega, by simp only; omega⟩ (fun _ => by simp only; omega) (fun h => by simp only at h; omega) (fun h => by simp only at h; omega)) (.inl (show 1 < (formE 3).size by decide)) (.inl (show 0 < (formE 3).size by decide)) (fun h => by simp only at h; omega)
  · rw [if_neg (by omega), if_neg (by omega), if_neg (by omega), if_neg (by omega), if_pos rfl]
    exact may_mk _ ⟨by simp only; omega, by simp only; omega⟩ ⟨by simp only; omega, by simp only; omega⟩ (fit_pack _ ⟨by simp only; omega, by simp only; omega⟩ (fun h => by simp only at h; omega) (fun h => by simp only at h; omega) (fun _ => by simp only; omega)) (.inl (show 1 < (formE 4).size by decide)) (.inl (show 0 < (formE 4).size by decide)) (fun h => by simp only at h; omega)
  · rw [if_neg (by omega), if_neg (by omega), if_neg (by omega), if_neg (by omega), if_neg (by omega)]
    exact may_mk _ ⟨by simp only; omega, by simp only; omega⟩ ⟨by simp only; omega, by simp only; omega⟩ (fit_pack _ ⟨by simp only; omega, by simp only; omega⟩ (fun h => by simp only at h; omega) (fun h => by simp only at h; omega) (fun h => by simp only at h; omega)) (.inr rfl) (.inr rfl) (fun h => by simp only at h; omega)
theorem goodE_bd (e : E4) : (goodE e).Bd := by
  have h := of_decide_eq_true (good_mayE e)
  have ha := tmod_bd e.a 2147483648 (by omega)
  have hb := tmod_bd e.b 2147483648 (by omega)
  have hm := mayM_yes h.2.2.2.1
  have key : -9223372036854775808 ≤ (goodE e).a ∧ (goodE e).a ≤ 9223372036854775807 ∧ -9223372036854775808 ≤ (goodE e).b ∧ (goodE e).b ≤ 9223372036854775807 := by
    unfold goodE
    simp only
    generalize Int.tmod e.a 2147483648 = a at *
    generalize Int.tmod e.b 2147483648 = b at *
    split
    · simp only; omega
    · split
      · simp only; omega
      · split
        · simp only; omega
        · split
          · simp only; omega
          · split
            · simp only; omega
            · simp only; omega
  exact ⟨⟨by omega, by omega⟩, ⟨by omega, by omega⟩, ⟨key.1, key.2.1⟩, key.2.2⟩
theorem lives_wr : wrP [⟨3, 3, 7, 1⟩] = (0, [0, 15, 131, 0, 0, 0, 3, 0, 0, 0, 7, 0, 0, 0, 1]) := by decide +kernel
theorem lives_bs : strOfNums [0, 15, 131, 0, 0, 0, 3, 0, 0, 0, 7, 0, 0, 0, 1] = { data := #[0, 15, 131, 0, 0, 0, 3, 0, 0, 0, 7, 0, 0, 0, 1] } := by decide +kernel
theorem lives_bd : (E4.mk 3 3 7 1).Bd := ⟨by simp only; omega, by simp only; omega, by simp only; omega, by simp only; omega⟩
def LivP (w : World) (e : Ending) (w' : World) : Prop := ∃ A c, e = .returned (.tuple #[.slice A 15 c, .int .i64 0]) ∧ ReadsInt w' .u8 A 15 [0, 15, 131, 0, 0, 0, 3, 0, 0, 0, 7, 0, 0, 0, 1] ∧ Below w.heap.size w w'
theorem lives_write (w : World) : Calls Tryd.prog 54 #[.slice (some ⟨w.heap.size, 0, none⟩) 1 1] (w.alloc (.cells #[.int .i64 3, .int .i64 3, .int .i64 7, .int .i64 1] 57)) (LivP (w.alloc (.cells #[.int .i64 3, .int .i64 3, .int .i64 7, .int .i64 1] 57))) := by
  have h := ev_Write (some ⟨w.heap.size, 0, none⟩) [⟨3, 3, 7, 1⟩] 1 (w.alloc (.cells #[.int .i64 3, .int .i64 3, .int .i64 7, .int .i64 1] 57)) (by simp) (er_new w 57 [⟨3, 3, 7, 1⟩] (by simp)) (fun i hi => by
    have : i = 0 := by simp at hi; omega
    subst this; exact lives_bd)
  refine h.mono fun e w' ⟨A, c, he, hs, hb⟩ => ?_
  rw [lives_wr] at he hs
  exact ⟨A, c, he, hs.rd, hb⟩
theorem ev_lives (w : World) : Calls Tryd.prog 26 #[] w fun e w' => e = .returned (.bool true) ∧ Below w.heap.size w w' := by
  have kd : ∀ w : World, (convert 22 9 (.slice (some ⟨w.heap.size, 0, none⟩) 15 15)).run Tryd.prog (w.alloc (.cells #[.int .u8 0, .int .u8 15, .int .u8 131, .int .u8 0, .int .u8 0, .int .u8 0, .int .u8 3, .int .u8 0, .int .u8 0, .int .u8 0, .int .u8 7, .int .u8 0, .int .u8 0, .int .u8 0, .int .u8 1] 5)) = .ok (.string { data := #[0, 15, 131, 0, 0, 0, 3, 0, 0, 0, 7, 0, 0, 0, 1] }) (w.alloc (.cells #[.int .u8 0, .int .u8 15, .int .u8 131, .int .u8 0, .int .u8 0, .int .u8 0, .int .u8 3, .int .u8 0, .int .u8 0, .int .u8 0, .int .u8 7, .int .u8 0, .int .u8 0, .int .u8 0, .int .u8 1] 5)) := fun w => by
    have := str_reads (c := 15) (reads_lit w [0, 15, 131, 0, 0, 0, 3, 0, 0, 0, 7, 0, 0, 0, 1] (by simp))
    rw [lives_bs] at this; exact this
  go_enter Tryd.func26, Tryd.ntmps26
  go_wp2_with (first | (go_at_call 54; (with_reducible refine (lives_write _).mono ?_); rintro e w1 ⟨A1, c1, rfl, hr1, hb1⟩; have hs1 := str_reads (c := c1) hr1; rw [lives_bs] at hs1; clear hr1; have hz1 := hb1.size; simp only [World.size_alloc] at hz1))
  (go_ret; refine ⟨?_, by (repeat (first | (with_reducible exact Below.refl _ _) | ((with_reducible refine Below.alloc ?_ ?hB _); (case hB => (first | omega | (simp; done) | (simp; omega)))) | ((with_reducible refine Below.setCell ?_ ?hB _); (case hB => (first | omega | (simp; done) | (simp; omega)))) | (with_reducible refine Below.drew ?_) | ((with_reducible refine below_ext_of ?_ ?hB); (case hB => (first | omega | (simp; done) | (simp; omega)))) | ((with_reducible refine Below.trans ?_ (Below.mono (by assumption) ?hB)); (case hB => (first | omega | (simp; done) | (simp; omega))))))⟩); rfl
/-- The bytes of events, one behind the other. -/
def catE (l : List E4) : List Int := l.flatMap msgE
theorem catE_snoc (l : List E4) (e : E4) : catE (l ++ [e]) = catE l ++ msgE e := by simp [catE]
theorem wr_good (l : List E4) (h : ∀ i, i < l.length → mayE (atE l i) = true) : ∀ k, k ≤ l.length → wrFrom l k = some (catE (l.take k))
  | 0, _ => by simp [wrFrom, catE]
  | k + 1, hk => by
    rw [wrFrom_yes (wr_good l h k (by omega)) (h k (by omega)), takeEv l k (by omega), catE_snoc]
theorem wrP_good (l : List E4) (h : ∀ i, i < l.length → mayE (atE l i) = true) : wrP l = (0, catE l) := by
  unfold wrP; rw [wr_good l h _ (Nat.le_refl _), List.take_length]
theorem catE_len (l : List E4) : (catE l).length ≤ l.length * 49 := by
  induction l with
  | nil => simp [catE]
  | cons e l ih =>
    have := msgE_len e
    simp only [catE, List.flatMap_cons, List.length_append, List.length_cons] at *; omega
theorem catE_byt (l : List E4) : Byt (catE l) := fun n hn => by
  obtain ⟨e, _, he⟩ := List.mem_flatMap.1 hn
  exact msgE_byt e n he
def goods (l : List E4) : List E4 := l.map goodE
theorem goods_len (l : List E4) : (goods l).length = l.length := by simp [goods]
theorem goods_at (l : List E4) (i : Nat) (h : i < l.length) : atE (goods l) i = goodE (atE l i) := by
  rw [atE_get (by rw [goods_len]; exact h), atE_get h]; simp [goods]
theorem goods_may (l : List E4) : ∀ i, i < (goods l).length → mayE (atE (goods l) i) = true := fun i hi => by
  rw [goods_len] at hi; rw [goods_at l i hi]; exact good_mayE _
theorem goods_bd (l : List E4) : ∀ i, i < (goods l).length → (atE (goods l) i).Bd := fun i hi => by
  rw [goods_len] at hi; rw [goods_at l i hi]; exact goodE_bd _
theorem goods_snoc (l : List E4) (e : E4) : goods (l ++ [e]) = goods l ++ [goodE e] := by simp [goods]
end Go.Proofs.YtinnaiofgbjicaaDoor
