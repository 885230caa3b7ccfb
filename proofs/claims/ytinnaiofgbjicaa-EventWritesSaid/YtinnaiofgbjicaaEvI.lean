/- An event made of any may be; its bytes; the document's example of layer 10. -/
import Derived.Test.YtinnaiofgbjicaaEvG
namespace Go.Proofs.Ytinnaiofgbjicaa
open Go.RowKit Go.Proofs.YtinnaiofgbjicaaW.PrintWords
set_option linter.unusedSimpArgs false
set_option linter.unusedVariables false
set_option maxRecDepth 1000000
theorem putOk_u (n : Int) (h : 0 ≤ n ∧ n ≤ 4294967295) : putOk 117 (vI n) = true := by
  unfold putOk fitI; rw [decide_eq_true_iff]; left; exact ⟨rfl, decide_eq_true (.inr ⟨rfl, h.1, by show n < 4294967296; omega⟩)⟩
theorem putOk_i (n : Int) (h : -2147483648 ≤ n ∧ n ≤ 2147483647) : putOk 105 (vI n) = true := by
  unfold putOk fitI; rw [decide_eq_true_iff]; left; exact ⟨rfl, decide_eq_true (.inl ⟨rfl, h.1, by show n < 2147483648; omega⟩)⟩
theorem vI_len (n : Int) : (putB (vI n)).length ≤ 21 := by rw [putB0 rfl]; simp [b4]
theorem fit_pack (e : E4) (h0 : 0 ≤ e.k ∧ e.k ≤ 5) (hu : (e.k = 0 ∨ e.k = 3) → (0 ≤ e.a ∧ e.a ≤ 4294967295) ∧ (0 ≤ e.b ∧ e.b ≤ 4294967295)) (h1 : e.k = 1 → 0 ≤ e.a ∧ e.a ≤ 4294967295)
    (h4 : e.k = 4 → (-2147483648 ≤ e.a ∧ e.a ≤ 2147483647) ∧ (-2147483648 ≤ e.b ∧ e.b ≤ 2147483647)) : packP (formE e.k) (argsE e) = (0, bodyE e) := by
  obtain ⟨k, id, a, b⟩ := e
  simp only at *
  rcases (show k = 0 ∨ k = 1 ∨ k = 2 ∨ k = 3 ∨ k = 4 ∨ k = 5 by omega) with rfl | rfl | rfl | rfl | rfl | rfl
  · obtain ⟨ha, hb⟩ := hu (.inl rfl)
    refine pack_ok (by decide +kernel) rfl fun i hi => ?_
    rcases (show i = 0 ∨ i = 1 by have : i < 2 := hi; omega) with rfl | rfl
    · exact ⟨putOk_u a ha, vI_len a⟩
    · exact ⟨putOk_u b hb, vI_len b⟩
  · have ha := h1 rfl
    refine pack_ok (by decide +kernel) rfl fun i hi => ?_
    rcases (show i = 0 by have : i < 1 := hi; omega) with rfl
    exact ⟨putOk_u a ha, vI_len a⟩
  · refine pack_ok (by decide +kernel) rfl fun i hi => ?_
    exact absurd hi (by show ¬ i < 0; omega)
  · obtain ⟨ha, hb⟩ := hu (.inr rfl)
    refine pack_ok (by decide +kernel) rfl fun i hi => ?_
    rcases (show i = 0 ∨ i = 1 by have : i < 2 := hi; omega) with rfl | rfl
    · exact ⟨putOk_u a ha, vI_len a⟩
    · exact ⟨putOk_u b hb, vI_len b⟩
  · obtain ⟨ha, hb⟩ := h4 rfl
    refine pack_ok (by decide +kernel) rfl fun i hi => ?_
    rcases (show i = 0 ∨ i = 1 by have : i < 2 := hi; omega) with rfl | rfl
    · exact ⟨putOk_i a ha, vI_len a⟩
    · exact ⟨putOk_i b hb, vI_len b⟩
  · refine pack_ok (by decide +kernel) rfl fun i hi => ?_
    exact absurd hi (by show ¬ i < 0; omega)
theorem may_mk (e : E4) (h0 : 0 ≤ e.k ∧ e.k ≤ 5) (hid : 0 ≤ e.id ∧ e.id ≤ 4294967295) (hp : packP (formE e.k) (argsE e) = (0, bodyE e)) (hb : 1 < (formE e.k).size ∨ e.b = 0) (ha : 0 < (formE e.k).size ∨ e.a = 0) (h2 : e.k ≤ 1 → 1 ≤ e.a ∧ e.a ≤ 12 ∧ e.b ≤ 255) : mayE e = true := by
  have hl := bodyE_len e
  exact decide_eq_true ⟨h0.1, h0.2, hp, decide_eq_true ⟨by omega, by omega, hid.1, hid.2, by omega⟩, hb, ha, h2⟩
theorem good_mayE (e : E4) : mayE (goodE e) = true := by
  have hk := tmU_bd e.k 6 (by omega)
  have hid := tmU_bd e.id 4294967296 (by omega)
  have ha := tmod_bd e.a 2147483648 (by omega)
  have hb := tmod_bd e.b 2147483648 (by omega)
  unfold goodE
  simp only
  generalize Int.tmod e.a 2147483648 = a at *
  generalize Int.tmod e.b 2147483648 = b at *
  generalize tmU e.id 4294967296 = id at *
  generalize tmU e.k 6 = k at *
  rcases (show k = 0 ∨ k = 1 ∨ k = 2 ∨ k = 3 ∨ k = 4 ∨ k = 5 by omega) with rfl | rfl | rfl | rfl | rfl | rfl
  · rw [if_pos rfl]
    exact may_mk _ ⟨by simp only; omega, by simp only; omega⟩ ⟨by simp only; omega, by simp only; omega⟩ (fit_pack _ ⟨by simp only; omega, by simp only; omega⟩ (fun _ => by simp only; omega) (fun h => by simp only at h; omega) (fun h => by simp only at h; omega)) (.inl (show 1 < (formE 0).size by decide)) (.inl (show 0 < (formE 0).size by decide)) (fun _ => by simp only; omega)
  · rw [if_neg (by omega), if_pos rfl]
    exact may_mk _ ⟨by simp only; omega, by simp only; omega⟩ ⟨by simp only; omega, by simp only; omega⟩ (fit_pack _ ⟨by simp only; omega, by simp only; omega⟩ (fun h => by simp only at h; omega) (fun h => by simp only; omega) (fun h => by simp only at h; omega)) (.inr rfl) (.inl (show 0 < (formE 1).size by decide)) (fun _ => by simp only; omega)
  · rw [if_neg (by omega), if_neg (by omega), if_pos rfl]
    exact may_mk _ ⟨by simp only; omega, by simp only; omega⟩ ⟨by simp only; omega, by simp only; omega⟩ (fit_pack _ ⟨by simp only; omega, by simp only; omega⟩ (fun h => by simp only at h; omega) (fun h => by simp only at h; omega) (fun h => by simp only at h; omega)) (.inr rfl) (.inr rfl) (fun h => by simp only at h; omega)
  · rw [if_neg (by omega), if_neg (by omega), if_neg (by omega), if_pos rfl]
    exact may_mk _ ⟨by simp only; omega, by simp only; omega⟩ ⟨by simp only; omega, by simp only; omega⟩ (fit_pack _ ⟨by simp only; omega, by simp only; omega⟩ (fun _ => by simp only; omega) (fun h => by simp only at h; omega) (fun h => by simp only at h; omega)) (.inl (show 1 < (formE 3).size by decide)) (.inl (show 0 < (formE 3).size by decide)) (fun h => by simp only at h; omega)
  · rw [if_neg (by omega), if_neg (by omega), if_neg (by omega), if_neg (by omega), if_pos rfl]
    exact may_mk _ ⟨by simp only; omega, by simp only; omega⟩ ⟨by simp only; omega, by simp only; omega⟩ (fit_pack _ ⟨by simp only; omega, by simp only; omega⟩ (fun h => by simp only at h; omega) (fun h => by simp only at h; omega) (fun _ => by simp only; omega)) (.inl (show 1 < (formE 4).size by decide)) (.inl (show 0 < (formE 4).size by decide)) (fun h => by simp only at h; omega)
  · rw [if_neg (by omega), if_neg (by omega), if_neg (by omega), if_neg (by omega), if_neg (by omega)]
    exact may_mk _ ⟨by simp only; omega, by simp only; omega⟩ ⟨by simp only; omega, by simp only; omega⟩ (fit_pack _ ⟨by simp only; omega, by simp only; omega⟩ (fun h => by simp only at h; omega) (fun h => by simp only at h; omega) (fun h => by simp only at h; omega)) (.inr rfl) (.inr rfl) (fun h => by simp only at h; omega)
theorem goodE_bd (e : E4) : (goodE e).Bd := by
  have h := of_decide_eq_true (good_mayE e)
  have ha := tmod_bd e.a 2147483648 (by omega)
  have hb := tmod_bd e.b 2147483648 (by omega)
  have hm := mayM_yes h.2.2.2.1
  have key : -9223372036854775808 ≤ (goodE e).a ∧ (goodE e).a ≤ 9223372036854775807 ∧ -9223372036854775808 ≤ (goodE e).b ∧ (goodE e).b ≤ 9223372036854775807 := by
    unfold goodE
    simp only
    generalize Int.tmod e.a 2147483648 = a at *
    generalize Int.tmod e.b 2147483648 = b at *
    split
    · simp only; omega
    · split
      · simp only; omega
      · split
        · simp only; omega
        · split
          · simp only; omega
          · split
            · simp only; omega
            · simp only; omega
  exact ⟨⟨by omega, by omega⟩, ⟨by omega, by omega⟩, ⟨key.1, key.2.1⟩, key.2.2⟩
theorem lives_wr : wrP [⟨3, 3, 7, 1⟩] = (0, [0, 15, 131, 0, 0, 0, 3, 0, 0, 0, 7, 0, 0, 0, 1]) := by decide +kernel
theorem lives_bs : strOfNums [0, 15, 131, 0, 0, 0, 3, 0, 0, 0, 7, 0, 0, 0, 1] = { data := #[0, 15, 131, 0, 0, 0, 3, 0, 0, 0, 7, 0, 0, 0, 1] } := by decide +kernel
theorem lives_bd : (E4.mk 3 3 7 1).Bd := ⟨by simp only; omega, by simp only; omega, by simp only; omega, by simp only; omega⟩
def LivP (w : World) (e : Ending) (w' : World) : Prop := ∃ A c, e = .returned (.tuple #[.slice A 15 c, .int .i64 0]) ∧ ReadsInt w' .u8 A 15 [0, 15, 131, 0, 0, 0, 3, 0, 0, 0, 7, 0, 0, 0, 1] ∧ Below w.heap.size w w'
theorem lives_write (w : World) : Calls Try.prog 7 #[.slice (some ⟨w.heap.size, 0, none⟩) 1 1] (w.alloc (.cells #[.int .i64 3, .int .i64 3, .int .i64 7, .int .i64 1] 35)) (LivP (w.alloc (.cells #[.int .i64 3, .int .i64 3, .int .i64 7, .int .i64 1] 35))) := by
  have h := ev_Write (some ⟨w.heap.size, 0, none⟩) [⟨3, 3, 7, 1⟩] 1 (w.alloc (.cells #[.int .i64 3, .int .i64 3, .int .i64 7, .int .i64 1] 35)) (by simp) (er_new w 35 [⟨3, 3, 7, 1⟩] (by simp)) (fun i hi => by
    have : i = 0 := by simp at hi; omega
    subst this; exact lives_bd)
  refine h.mono fun e w' ⟨A, c, he, hs, hb⟩ => ?_
  rw [lives_wr] at he hs
  exact ⟨A, c, he, hs.rd, hb⟩
theorem ev_lives (w : World) : Calls Try.prog 9 #[] w fun e w' => e = .returned (.bool true) ∧ Below w.heap.size w w' := by
  have kd : ∀ w : World, (convert 23 9 (.slice (some ⟨w.heap.size, 0, none⟩) 15 15)).run Try.prog (w.alloc (.cells #[.int .u8 0, .int .u8 15, .int .u8 131, .int .u8 0, .int .u8 0, .int .u8 0, .int .u8 3, .int .u8 0, .int .u8 0, .int .u8 0, .int .u8 7, .int .u8 0, .int .u8 0, .int .u8 0, .int .u8 1] 5)) = .ok (.string { data := #[0, 15, 131, 0, 0, 0, 3, 0, 0, 0, 7, 0, 0, 0, 1] }) (w.alloc (.cells #[.int .u8 0, .int .u8 15, .int .u8 131, .int .u8 0, .int .u8 0, .int .u8 0, .int .u8 3, .int .u8 0, .int .u8 0, .int .u8 0, .int .u8 7, .int .u8 0, .int .u8 0, .int .u8 0, .int .u8 1] 5)) := fun w => by
    have := str_reads (c := 15) (reads_lit w [0, 15, 131, 0, 0, 0, 3, 0, 0, 0, 7, 0, 0, 0, 1] (by simp))
    rw [lives_bs] at this; exact this
  go_enter Try.func9, Try.ntmps9
  go_wp2_with (first | (go_at_call 7; (with_reducible refine (lives_write _).mono ?_); rintro e w1 ⟨A1, c1, rfl, hr1, hb1⟩; have hs1 := str_reads (c := c1) hr1; rw [lives_bs] at hs1; clear hr1; have hz1 := hb1.size; simp only [World.size_alloc] at hz1))
  (go_ret; refine ⟨?_, by (repeat (first | (with_reducible exact Below.refl _ _) | ((with_reducible refine Below.alloc ?_ ?hB _); (case hB => (first | omega | (simp; done) | (simp; omega)))) | ((with_reducible refine Below.setCell ?_ ?hB _); (case hB => (first | omega | (simp; done) | (simp; omega)))) | (with_reducible refine Below.drew ?_) | ((with_reducible refine below_ext_of ?_ ?hB); (case hB => (first | omega | (simp; done) | (simp; omega)))) | ((with_reducible refine Below.trans ?_ (Below.mono (by assumption) ?hB)); (case hB => (first | omega | (simp; done) | (simp; omega))))))⟩); rfl
/-- The bytes of events, one behind the other. -/
def catE (l : List E4) : List Int := l.flatMap msgE
theorem catE_snoc (l : List E4) (e : E4) : catE (l ++ [e]) = catE l ++ msgE e := by simp [catE]
theorem wr_good (l : List E4) (h : ∀ i, i < l.length → mayE (atE l i) = true) : ∀ k, k ≤ l.length → wrFrom l k = some (catE (l.take k))
  | 0, _ => by simp [wrFrom, catE]
  | k + 1, hk => by
    rw [wrFrom_yes (wr_good l h k (by omega)) (h k (by omega)), takeEv l k (by omega), catE_snoc]
theorem wrP_good (l : List E4) (h : ∀ i, i < l.length → mayE (atE l i) = true) : wrP l = (0, catE l) := by
  unfold wrP; rw [wr_good l h _ (Nat.le_refl _), List.take_length]
theorem catE_len (l : List E4) : (catE l).length ≤ l.length * 49 := by
  induction l with
  | nil => simp [catE]
  | cons e l ih =>
    have := msgE_len e
    simp only [catE, List.flatMap_cons, List.length_append, List.length_cons] at *; omega
theorem catE_byt (l : List E4) : Byt (catE l) := fun n hn => by
  obtain ⟨e, _, he⟩ := List.mem_flatMap.1 hn
  exact msgE_byt e n he
def goods (l : List E4) : List E4 := l.map goodE
theorem goods_len (l : List E4) : (goods l).length = l.length := by simp [goods]
theorem goods_at (l : List E4) (i : Nat) (h : i < l.length) : atE (goods l) i = goodE (atE l i) := by
  rw [atE_get (by rw [goods_len]; exact h), atE_get h]; simp [goods]
theorem goods_may (l : List E4) : ∀ i, i < (goods l).length → mayE (atE (goods l) i) = true := fun i hi => by
  rw [goods_len] at hi; rw [goods_at l i hi]; exact good_mayE _
theorem goods_bd (l : List E4) : ∀ i, i < (goods l).length → (atE (goods l) i).Bd := fun i hi => by
  rw [goods_len] at hi; rw [goods_at l i hi]; exact goodE_bd _
theorem goods_snoc (l : List E4) (e : E4) : goods (l ++ [e]) = goods l ++ [goodE e] := by simp [goods]
end Go.Proofs.Ytinnaiofgbjicaa
namespace Go.Proofs.Ytinnaiofgbjicaa
open Go.RowKit Go.Proofs.YtinnaiofgbjicaaW.PrintWords
set_option linter.unusedSimpArgs false
set_option linter.unusedVariables false
set_option maxRecDepth 1000000
def WrOk (w : World) (b : List Int) (e : Ending) (w' : World) : Prop := ∃ A c, e = .returned (.tuple #[.slice A b.length c, .int .i64 0]) ∧ BS w' A b c ∧ Below w.heap.size w w'
theorem write_ok (A : Option Addr) (l : List E4) (c : Nat) (w : World) (hl : l.length ≤ 1000) (hr : ER w A l c) (hm : ∀ i, i < l.length → mayE (atE l i) = true) (hbd : ∀ i, i < l.length → (atE l i).Bd) : Calls Try.prog 7 #[.slice A l.length c] w (WrOk w (catE l)) := by
  have := ev_Write A l c w hl hr hbd
  unfold WriteP at this
  rw [wrP_good l hm] at this
  exact this
theorem of_one (g : E4) (w : World) : Calls Try.prog 8 #[.slice (some ⟨w.heap.size, 0, none⟩) 1 1] (w.alloc (.cells #[.int .i64 (g).k, .int .i64 (g).id, .int .i64 (g).a, .int .i64 (g).b] 25)) (RowE (w.alloc (.cells #[.int .i64 (g).k, .int .i64 (g).id, .int .i64 (g).a, .int .i64 (g).b] 25)) 35 [g]) :=
  law_of (some ⟨w.heap.size, 0, none⟩) [g] 1 _ (by simp) (er_new w 25 [g] (by simp))
theorem one_at (g : E4) (P : E4 → Prop) (h : P g) : ∀ i, i < [g].length → P (atE [g] i) := fun i hi => by
  have : i = 0 := by simp at hi; omega
  subst this; exact h
set_option maxHeartbeats 2000000 in
theorem walk_EventRow (A : Option Addr) (l : List E4) (c : Nat) (w : World) (hr : ER w A l c) (hbd : ∀ i, i < l.length → (atE l i).Bd) : Calls Try.prog 3 #[.slice A l.length c] w fun e w' => e = .returned (.bool true) ∧ Below w.heap.size w w' := by
  have hrow := hr.row
  have hll := hr.len
  have HLV := Lib.hid ev_lives
  clear hr
  go_enter Try.func3, Try.ntmps3
  go_wp2
  go_loopw [3, 4, 5] (fun v a i wr => ∃ (k : Nat) (m : List E4) (b : List Int), k ≤ l.length ∧ k ≤ 5 ∧ i = .int .i64 k ∧ m = goods (l.take k) ∧ b = catE m ∧ Below w.heap.size w wr ∧ OwnE wr w.heap.size 25 v m ∧ wr.ownsRow w.heap.size 5 1 a b.length (nums .u8 b)) (fun _ _ i _ => 5 - (intOf i).toNat)
  case atStart => exact ⟨0, [], [], by omega, by omega, rfl, rfl, rfl, Below.refl _ _, OwnE.nil _ _ _, own_nilB _ _⟩
  case round =>
    obtain ⟨k, m, b, hk, hk5, rfl, hm, hb, hbr, hown, hownb⟩ := hrel
    have hzr := hbr.size
    have hml : m.length = k := by rw [hm, goods_len]; simp; omega
    have hbl := catE_len m
    rw [← hb] at hbl
    have hm5 : m.length ≤ 5 := by omega
    have hb5 : b.length ≤ 245 := by omega
    have HM := Lib.hid (And.intro hm hb)
    have HML := Lib.hid hml
    have HBR := Lib.hid hbr
    clear hml hbl
    by_cases hc : k < l.length ∧ k < 5
    · obtain ⟨hlt, hlt5⟩ := hc
      obtain ⟨ad, rfl, f0, f1, f2, f3⟩ := hrow k hlt
      have q0 := pw_cell_below hbr f0; have q1 := pw_cell_below hbr f1; have q2 := pw_cell_below hbr f2; have q3 := pw_cell_below hbr f3
      have hxb := hbd k hlt
      have ht := Lib.hid (takeEv l k hlt)
      clear f0 f1 f2 f3 hrow hbd hm hb
      generalize atE l k = x at *
      have cG := fun w => ref_GoodE x w hxb
      have hgm := good_mayE x
      have hgb := goodE_bd x
      have HS := Lib.hid (goods_snoc (l.take k) x)
      generalize goodE x = g at *
      have cW : ∀ A c w, ER w A [g] c → Calls Try.prog 7 #[.slice A 1 c] w (WrOk w (catE [g])) := fun A c w h => write_ok A [g] c w (by simp) h (one_at g (fun e => mayE e = true) hgm) (one_at g E4.Bd hgb)
      have hcg : catE [g] = msgE g := by simp [catE]
      rw [hcg] at cW
      have hgl := msgE_len g
      have HC := Lib.hid (catE_snoc m g)
      generalize msgE g = mg at *
      clear hcg hxb hgm hgb
      unfold WrOk at cW
      go_wp2_with (first | (go_at_call 6; (with_reducible refine (cG _).mono ?_); rintro en w1 ⟨rfl, hb1⟩; obtain ⟨hc1, hf1⟩ := bcell hb1; have hz1 := hb1.size; (try simp only [World.size_alloc, World.size_setCell, World.size_drew] at hz1)) | ((at_builtin; refine print_append_cells (w0 := w) (w.heap.size) rfl _ _ 22 25 _ 4 32 rfl (Try.underlying22) info_ee rfl (by decide) (by decide) _ _ _ [.int .i64 (g).k, .int .i64 (g).id, .int .i64 (g).a, .int .i64 (g).b] rfl ?_ rfl ?_ (OwnE.below hown ?_) ?_ ?_ ?_ ?_; (focus (go_simp; done)); (focus (simp [Value.oneCell']; done)); (focus ((repeat (first | (with_reducible exact Below.refl _ _) | ((with_reducible refine Below.alloc ?_ ?hB _); (case hB => (first | omega | (simp; done) | (simp; omega)))) | ((with_reducible refine Below.setCell ?_ ?hB _); (case hB => (first | omega | (simp; done) | (simp; omega)))) | (with_reducible refine Below.drew ?_) | ((with_reducible refine below_ext_of ?_ ?hB); (case hB => (first | omega | (simp; done) | (simp; omega)))) | ((with_reducible refine Below.trans ?_ (Below.mono (by assumption) ?hB)); (case hB => (first | omega | (simp; done) | (simp; omega)))))); done)); (focus ((repeat (first | (with_reducible exact Below.refl _ _) | ((with_reducible refine Below.alloc ?_ ?hB _); (case hB => (first | omega | (simp; done) | (simp; omega)))) | ((with_reducible refine Below.setCell ?_ ?hB _); (case hB => (first | omega | (simp; done) | (simp; omega)))) | (with_reducible refine Below.drew ?_) | ((with_reducible refine below_ext_of ?_ ?hB); (case hB => (first | omega | (simp; done) | (simp; omega)))) | ((with_reducible refine Below.trans ?_ (Below.mono (by assumption) ?hB)); (case hB => (first | omega | (simp; done) | (simp; omega)))))); done)); (focus ((first | omega | (simp; done) | (simp; omega)); done)); (focus omega); intro v2 w2 hown2 hb2 hg2 _; have hz2 := hb2.size; (try simp only [World.size_alloc, World.size_setCell, World.size_drew] at hz2)); have G2 := Lib.hid (show w2.heap[w1.heap.size]? = some (.cells #[.int .i64 (g).k, .int .i64 (g).id, .int .i64 (g).a, .int .i64 (g).b] 25 (0, 0)) from blk_grown (heap_alloc_new _ _) hg2 (fun h => by have h1 := (World.ownsRow.lt hown _ h.symm).2; omega)); have p0 := (blk_cell G2.out 0).trans rfl; have p1 := (blk_cell G2.out 1).trans rfl; have p2 := (blk_cell G2.out 2).trans rfl; have p3 := (blk_cell G2.out 3).trans rfl; have hbW : Below wr.heap.size wr (w1.alloc (.cells #[.int .i64 (g).k, .int .i64 (g).id, .int .i64 (g).a, .int .i64 (g).b] 25)) := (by (repeat (first | (with_reducible exact Below.refl _ _) | ((with_reducible refine Below.alloc ?_ ?hB _); (case hB => (first | omega | (simp; done) | (simp; omega)))) | ((with_reducible refine Below.setCell ?_ ?hB _); (case hB => (first | omega | (simp; done) | (simp; omega)))) | (with_reducible refine Below.drew ?_) | ((with_reducible refine below_ext_of ?_ ?hB); (case hB => (first | omega | (simp; done) | (simp; omega)))) | ((with_reducible refine Below.trans ?_ (Below.mono (by assumption) ?hB)); (case hB => (first | omega | (simp; done) | (simp; omega))))))); have hownb2 := (pw_own_below hownb hbW).kept hg2 (own_type_ne (pw_own_below hownb hbW) (OwnE.below hown hbW) (by decide)); have hz12 := hg2.size; (try simp only [World.size_alloc] at hz12); clear hbW; replace hg2 := Lib.hid hg2) | (go_at_call 8; (with_reducible refine (of_one _ _).mono ?_); rintro en w3 ⟨v3, rfl, ho3, hb3⟩; obtain ⟨A3, c3, rfl, hr3⟩ := ho3.er; clear ho3; have hz3 := hb3.size; replace hr3 := Lib.hid hr3; (try simp only [World.size_alloc, World.size_setCell, World.size_drew] at hz3)) | (go_at_call 7; (with_reducible refine (cW _ _ _ hr3.out).mono ?_); rintro en w4 ⟨A4, c4, rfl, hs4, hb4⟩; have hz4 := hb4.size; replace hs4 := Lib.hid hs4; (try simp only [World.size_alloc, World.size_setCell, World.size_drew] at hz4)) | (at_builtin; refine print_append_row (w0 := w) (w.heap.size) rfl _ _ 23 5 .u8 1 rfl Try.underlying23 info_u8 (by decide) _ (b) (mg) _ _ _ rfl rfl (pw_own_below hownb2 ?_) (ReadsInt.below hs4.out.rd ?_) ?_ ?_ ?_ ?_; (focus ((repeat (first | (with_reducible exact Below.refl _ _) | ((with_reducible refine Below.alloc ?_ ?hB _); (case hB => (first | omega | (simp; done) | (simp; omega)))) | ((with_reducible refine Below.setCell ?_ ?hB _); (case hB => (first | omega | (simp; done) | (simp; omega)))) | (with_reducible refine Below.drew ?_) | ((with_reducible refine below_ext_of ?_ ?hB); (case hB => (first | omega | (simp; done) | (simp; omega)))) | ((with_reducible refine Below.trans ?_ (Below.mono (by assumption) ?hB)); (case hB => (first | omega | (simp; done) | (simp; omega)))))); done)); (focus ((repeat (first | (with_reducible exact Below.refl _ _) | ((with_reducible refine Below.alloc ?_ ?hB _); (case hB => (first | omega | (simp; done) | (simp; omega)))) | ((with_reducible refine Below.setCell ?_ ?hB _); (case hB => (first | omega | (simp; done) | (simp; omega)))) | (with_reducible refine Below.drew ?_) | ((with_reducible refine below_ext_of ?_ ?hB); (case hB => (first | omega | (simp; done) | (simp; omega)))) | ((with_reducible refine Below.trans ?_ (Below.mono (by assumption) ?hB)); (case hB => (first | omega | (simp; done) | (simp; omega)))))); done)); (focus ((repeat (first | (with_reducible exact Below.refl _ _) | ((with_reducible refine Below.alloc ?_ ?hB _); (case hB => (first | omega | (simp; done) | (simp; omega)))) | ((with_reducible refine Below.setCell ?_ ?hB _); (case hB => (first | omega | (simp; done) | (simp; omega)))) | (with_reducible refine Below.drew ?_) | ((with_reducible refine below_ext_of ?_ ?hB); (case hB => (first | omega | (simp; done) | (simp; omega)))) | ((with_reducible refine Below.trans ?_ (Below.mono (by assumption) ?hB)); (case hB => (first | omega | (simp; done) | (simp; omega)))))); done)); (focus ((first | omega | (simp; done) | (simp; omega)); done)); (focus ((try simp only [List.length_append, List.length_cons, List.length_nil]); omega)); intro v5 w5 hown5 hb5 hg5 _; have hz5 := hb5.size; (try simp only [World.size_alloc, World.size_setCell, World.size_drew] at hz5)))
      have ho2 := (pw_own_below hown2 (show Below w2.heap.size w2 w4 from by (repeat (first | (with_reducible exact Below.refl _ _) | ((with_reducible refine Below.alloc ?_ ?hB _); (case hB => (first | omega | (simp; done) | (simp; omega)))) | ((with_reducible refine Below.setCell ?_ ?hB _); (case hB => (first | omega | (simp; done) | (simp; omega)))) | (with_reducible refine Below.drew ?_) | ((with_reducible refine below_ext_of ?_ ?hB); (case hB => (first | omega | (simp; done) | (simp; omega)))) | ((with_reducible refine Below.trans ?_ (Below.mono (by assumption) ?hB)); (case hB => (first | omega | (simp; done) | (simp; omega)))))))).kept hg5 (own_type_ne (pw_own_below hown2 (show Below w2.heap.size w2 w4 from by (repeat (first | (with_reducible exact Below.refl _ _) | ((with_reducible refine Below.alloc ?_ ?hB _); (case hB => (first | omega | (simp; done) | (simp; omega)))) | ((with_reducible refine Below.setCell ?_ ?hB _); (case hB => (first | omega | (simp; done) | (simp; omega)))) | (with_reducible refine Below.drew ?_) | ((with_reducible refine below_ext_of ?_ ?hB); (case hB => (first | omega | (simp; done) | (simp; omega)))) | ((with_reducible refine Below.trans ?_ (Below.mono (by assumption) ?hB)); (case hB => (first | omega | (simp; done) | (simp; omega)))))))) (pw_own_below hownb2 (show Below w2.heap.size w2 w4 from by (repeat (first | (with_reducible exact Below.refl _ _) | ((with_reducible refine Below.alloc ?_ ?hB _); (case hB => (first | omega | (simp; done) | (simp; omega)))) | ((with_reducible refine Below.setCell ?_ ?hB _); (case hB => (first | omega | (simp; done) | (simp; omega)))) | (with_reducible refine Below.drew ?_) | ((with_reducible refine below_ext_of ?_ ?hB); (case hB => (first | omega | (simp; done) | (simp; omega)))) | ((with_reducible refine Below.trans ?_ (Below.mono (by assumption) ?hB)); (case hB => (first | omega | (simp; done) | (simp; omega)))))))) (by decide))
      go_roundw
      case rel => exact ⟨k + 1, m ++ [g], b ++ mg, by omega, by omega, by go_num, by rw [ht.out, HS.out, ← HM.out.1], by rw [HC.out, ← HM.out.2], hb5, OwnE.snoc ho2, hown5⟩
      case measure => simp [intOf]; omega
    · have hg : (k < l.length ∧ ¬ k < 5) ∨ ¬ k < l.length := by omega
      have hmay := goods_may (l.take k)
      have hmb := goods_bd (l.take k)
      rw [← hm] at hmay hmb
      obtain ⟨A1, c1, rfl, hr1⟩ := hown.er
      have cO := fun w1 h => law_of A1 m c1 w1 (by omega) h
      have cW := fun A c w h => write_ok A m c w (by omega) h hmay hmb
      rw [← hb] at cW
      have HR := Lib.hid hr1
      obtain ⟨A2, c2, rfl, hrb⟩ := own_reads hownb
      have HRB := Lib.hid hrb
      unfold RowE at cO
      unfold WrOk at cW
      clear hm hb hown hownb hmay hmb hrow hbd hr1 hrb hc
      rcases hg with ⟨hg1, hg2⟩ | hg1
      all_goals
        go_wp2_with (first | (go_at_call 8; (with_reducible refine (cO _ (HR.out.below ?_)).mono ?_); (focus ((repeat (first | (with_reducible exact Below.refl _ _) | ((with_reducible refine Below.alloc ?_ ?hB _); (case hB => (first | omega | (simp; done) | (simp; omega)))) | ((with_reducible refine Below.setCell ?_ ?hB _); (case hB => (first | omega | (simp; done) | (simp; omega)))) | (with_reducible refine Below.drew ?_) | ((with_reducible refine below_ext_of ?_ ?hB); (case hB => (first | omega | (simp; done) | (simp; omega)))) | ((with_reducible refine Below.trans ?_ (Below.mono (by assumption) ?hB)); (case hB => (first | omega | (simp; done) | (simp; omega)))))); done)); rintro en w3 ⟨v3, rfl, ho3, hb3⟩; obtain ⟨A3, c3, rfl, hr3⟩ := ho3.er; clear ho3; have hz3 := hb3.size; replace hr3 := Lib.hid hr3) | (go_at_call 7; (with_reducible refine (cW _ _ _ hr3.out).mono ?_); rintro en w4 ⟨A4, c4, rfl, hs4, hb4⟩; have hz4 := hb4.size; have st4 := str_reads (c := c4) hs4.rd; have st2 := str_reads (c := c2) (HRB.out.below (show Below wr.heap.size wr w4 from by (repeat (first | (with_reducible exact Below.refl _ _) | ((with_reducible refine Below.alloc ?_ ?hB _); (case hB => (first | omega | (simp; done) | (simp; omega)))) | ((with_reducible refine Below.setCell ?_ ?hB _); (case hB => (first | omega | (simp; done) | (simp; omega)))) | (with_reducible refine Below.drew ?_) | ((with_reducible refine below_ext_of ?_ ?hB); (case hB => (first | omega | (simp; done) | (simp; omega)))) | ((with_reducible refine Below.trans ?_ (Below.mono (by assumption) ?hB)); (case hB => (first | omega | (simp; done) | (simp; omega)))))))); generalize strOfNums b = sb at *; clear hs4) | (go_at_call 9; (with_reducible refine (HLV.out _).mono ?_); rintro en w5 ⟨rfl, hb5⟩; have hz5 := hb5.size))
        go_ret
        exact ⟨rfl, HBR.out.trans (Below.mono (show Below wr.heap.size wr _ from by (repeat (first | (with_reducible exact Below.refl _ _) | ((with_reducible refine Below.alloc ?_ ?hB _); (case hB => (first | omega | (simp; done) | (simp; omega)))) | ((with_reducible refine Below.setCell ?_ ?hB _); (case hB => (first | omega | (simp; done) | (simp; omega)))) | (with_reducible refine Below.drew ?_) | ((with_reducible refine below_ext_of ?_ ?hB); (case hB => (first | omega | (simp; done) | (simp; omega)))) | ((with_reducible refine Below.trans ?_ (Below.mono (by assumption) ?hB)); (case hB => (first | omega | (simp; done) | (simp; omega))))))) hzr)⟩
end Go.Proofs.Ytinnaiofgbjicaa
