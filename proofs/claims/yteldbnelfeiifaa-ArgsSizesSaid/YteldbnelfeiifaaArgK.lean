/- Arguments that fit a form, made of any: walked. -/
import Derived.Test.YteldbnelfeiifaaArgJ
namespace Go.Proofs.Yteldbnelfeiifaa
open Go.RowKit Go.Proofs.YteldbnelfeiifaaW.PrintWords
set_option linter.unusedSimpArgs false
set_option linter.unusedVariables false
set_option maxRecDepth 1000000
theorem reads_nilK (w : World) (A : Option Addr) : ReadsInt w .u8 A 0 [] := ⟨rfl, by omega, fun h => by omega⟩
theorem cell_al {w : World} {p : Addr} {v : Value} (h : w.cell? p = some v) (o : Obj) : (w.alloc o).cell? p = some v := pw_cell_below ((Below.refl _ _).alloc (Nat.le_refl _) o) h
def tm (n : Int) : Int := Int.tmod n 2147483648
theorem tm_bd (n : Int) : -2147483648 < tm n ∧ tm n < 2147483648 := by
  unfold tm
  have h1 := Int.tmod_lt_of_pos n (show (0 : Int) < 2147483648 by omega)
  by_cases h : 0 ≤ n
  · have := Int.tmod_nonneg 2147483648 h; omega
  · have := Int.tmod_nonneg 2147483648 (show 0 ≤ -n by omega)
    have h3 := Int.tmod_lt_of_pos (-n) (show (0 : Int) < 2147483648 by omega)
    rw [Int.neg_tmod] at this h3; omega
def goodX (c : Int) (x : V8) : V8 :=
  if c = 105 then { v0 with n := tm x.n }
  else if c = 117 then { v0 with n := max (tm x.n) (-tm x.n) }
  else if c = 115 then { v0 with kind := 1, s := x.s.extract 0 (min x.s.size 20) }
  else if c = 114 then { v0 with kind := 2, x0 := tm x.x0, y0 := tm x.y0, x1 := tm x.x1, y1 := tm x.y1 }
  else { v0 with kind := 3, b := x.b.take (min x.b.length 20) }
def goodN (f : ByteArray) (l : List V8) (k : Nat) : List V8 := (List.range k).map fun i => goodX (byN f i) (at8 l i)
def goodL (f : ByteArray) (l : List V8) : List V8 := goodN f l f.size
theorem goodN_succ (f : ByteArray) (l : List V8) (k : Nat) : goodN f l (k + 1) = goodN f l k ++ [goodX (byN f k) (at8 l k)] := by
  unfold goodN; rw [List.range_succ, List.map_append]; rfl
theorem goodN_len (f : ByteArray) (l : List V8) (k : Nat) : (goodN f l k).length = k := by simp [goodN]
theorem at8_out (l : List V8) (k : Nat) (h : ¬ k < l.length) : at8 l k = v0 := by
  unfold at8; rw [List.getD_eq_getElem?_getD, List.getElem?_eq_none (by omega)]; rfl
set_option maxHeartbeats 4000000 in
theorem ref_Good (f : ByteArray) (A : Option Addr) (l : List V8) (c : Nat) (w : World) (hf : f.size ≤ 1000000) (hc : l.length ≤ c) (hz : l.length ≤ 9223372036854775807) (hr : VRow w A l)
    (hok : ∀ i, i < l.length → (at8 l i).s.size ≤ 9223372036854775807 ∧ (at8 l i).b.length ≤ 9223372036854775807 ∧ (-9223372036854775808 ≤ (at8 l i).n ∧ (at8 l i).n ≤ 9223372036854775807)) :
    Calls Try.prog 16 #[.string f, .slice A l.length c] w fun e w' => ∃ v, e = .returned v ∧ OwnV w w' w.heap.size v (goodL f l) ∧ Below w.heap.size w w' := by
  go_enter Try.func16, Try.ntmps16
  go_wp2
  go_loopw [5, 6] (fun v i wr => ∃ k : Nat, k ≤ f.size ∧ i = .int .i64 k ∧ Below w.heap.size w wr ∧ OwnV w wr w.heap.size v (goodN f l k)) (fun _ i _ => f.size - (intOf i).toNat)
  case atStart => exact ⟨0, by omega, rfl, Below.refl _ _, OwnV.nil _ _ _⟩
  case round =>
    obtain ⟨k, hk, rfl, hbr, hown⟩ := hrel
    by_cases hlt : k < f.size
    · have it := fun w => idx_string f k hlt w
      have eb := byN_at f k hlt
      have ht := Lib.hid (goodN_succ f l k)
      obtain ⟨L, hL, hLn, ho, hrd⟩ := hown.row_n
      have HN : L.length ≤ 1000000 := by rw [hLn, goodN_len]; omega
      have HL := Lib.hid hL
      have HR := Lib.hid hrd
      have hzr := hbr.size
      clear hLn hL hrd hown
      by_cases hin : k < l.length
      · obtain ⟨ad, Ab, m, rfl, f0, f1, f2, f3, f4, f5, f6, f7, hm, hb⟩ := hr k hin
        have g0 := pw_cell_below hbr f0; have g1 := pw_cell_below hbr f1; have g2 := pw_cell_below hbr f2; have g3 := pw_cell_below hbr f3
        have g4 := pw_cell_below hbr f4; have g5 := pw_cell_below hbr f5; have g6 := pw_cell_below hbr f6; have g7 := pw_cell_below hbr f7
        clear f0 f1 f2 f3 f4 f5 f6 f7
        have q0 := cell_al g0; have q1 := cell_al g1; have q2 := cell_al g2; have q3 := cell_al g3; have q4 := cell_al g4; have q5 := cell_al g5; have q6 := cell_al g6; have q7 := cell_al g7
        obtain ⟨z1, z2, z3, z4⟩ := hok k hin
        have HB := Lib.hid hb
        generalize at8 l k = x at *
        clear hb hr hok
        by_cases c105 : byN f k = 105
        · obtain ⟨q, hq⟩ : ∃ q, q = tm x.n := ⟨_, rfl⟩
          have q1 : q > -2147483648 ∧ q < 2147483648 := by rw [hq]; exact tm_bd _
          obtain ⟨qq1, qq2⟩ := q1
          have HY := Lib.hid (show (VH.mk (goodX (byN f k) x) none 0).cells = [.int .i64 0, .int .i64 q, .string ⟨#[]⟩, .int .i64 0, .int .i64 0, .int .i64 0, .int .i64 0, .slice none 0 0] from by unfold goodX; rw [if_pos c105]; rw [hq]; rfl)
          have e5 : Int.tmod x.n 2147483648 = q := hq.symm
          have HQ : Hid (VH.reads w ⟨goodX (byN f k) x, none, 0⟩) := Lib.hid (by unfold goodX; rw [if_pos c105]; exact ⟨Nat.le_refl _, reads_nilK w none⟩)
          have n105 : (byN f k == 105) = true := by simp; omega
          clear hq
          clear c105
          go_wp2_with (first | (at_builtin; refine print_append_cells (w0 := w) (w).heap.size rfl _ _ 22 41 _ 8 88 rfl Try.underlying22 info_v rfl (by decide) (by decide) _ _ _ ([.int .i64 0, .int .i64 q, .string ⟨#[]⟩, .int .i64 0, .int .i64 0, .int .i64 0, .int .i64 0, .slice none 0 0]) rfl ?_ rfl ?_ (pw_own_below ho ?_) ?_ ?_ ?_ ?_; (focus (go_simp; done)); (focus (simp [Value.oneCell']; done)); (focus ((repeat (first | (with_reducible exact Below.refl _ _) | ((with_reducible refine Below.alloc ?_ ?hB _); (case hB => (first | omega | (simp; done) | (simp; omega)))) | ((with_reducible refine Below.setCell ?_ ?hB _); (case hB => (first | omega | (simp; done) | (simp; omega)))) | (with_reducible refine Below.drew ?_) | ((with_reducible refine below_ext_of ?_ ?hB); (case hB => (first | omega | (simp; done) | (simp; omega)))) | ((with_reducible refine Below.trans ?_ (Below.mono (by assumption) ?hB)); (case hB => (first | omega | (simp; done) | (simp; omega)))))); done)); (focus ((repeat (first | (with_reducible exact Below.refl _ _) | ((with_reducible refine Below.alloc ?_ ?hB _); (case hB => (first | omega | (simp; done) | (simp; omega)))) | ((with_reducible refine Below.setCell ?_ ?hB _); (case hB => (first | omega | (simp; done) | (simp; omega)))) | (with_reducible refine Below.drew ?_) | ((with_reducible refine below_ext_of ?_ ?hB); (case hB => (first | omega | (simp; done) | (simp; omega)))) | ((with_reducible refine Below.trans ?_ (Below.mono (by assumption) ?hB)); (case hB => (first | omega | (simp; done) | (simp; omega)))))); done)); (focus ((first | omega | (simp; done) | (simp; omega)); done)); (focus omega); intro v2 w2 hown2 hb2 _ _; have hz2 := hb2.size; (try simp only [World.size_alloc, World.size_setCell, World.size_drew] at hz2)))
          (go_roundw; (case rel => exact ⟨k + 1, by omega, by go_num, hb2, by rw [ht.out]; exact OwnV.snoc ⟨goodX (byN f k) x, none, 0⟩ (by rw [HY.out]; exact hown2) HL.out HR.out HQ.out⟩); (case measure => (simp [intOf]; omega)))
        · have t105 := True.intro
          by_cases c117 : byN f k = 117
          · obtain ⟨q, hq⟩ : ∃ q, q = tm x.n := ⟨_, rfl⟩
            have q1 : q > -2147483648 ∧ q < 2147483648 := by rw [hq]; exact tm_bd _
            obtain ⟨qq1, qq2⟩ := q1
            have HY := Lib.hid (show (VH.mk (goodX (byN f k) x) none 0).cells = [.int .i64 0, .int .i64 (max q (-q)), .string ⟨#[]⟩, .int .i64 0, .int .i64 0, .int .i64 0, .int .i64 0, .slice none 0 0] from by unfold goodX; rw [if_neg c105]; rw [if_pos c117]; rw [hq]; rfl)
            have e5 : Int.tmod x.n 2147483648 = q := hq.symm
            have HQ : Hid (VH.reads w ⟨goodX (byN f k) x, none, 0⟩) := Lib.hid (by unfold goodX; rw [if_neg c105]; rw [if_pos c117]; exact ⟨Nat.le_refl _, reads_nilK w none⟩)
            have n105 : (byN f k == 105) = false := by simp; omega
            have n117 : (byN f k == 117) = true := by simp; omega
            clear hq
            clear c105 c117
            go_wp2_with (first | (at_builtin; refine print_append_cells (w0 := w) (w).heap.size rfl _ _ 22 41 _ 8 88 rfl Try.underlying22 info_v rfl (by decide) (by decide) _ _ _ ([.int .i64 0, .int .i64 (max q (-q)), .string ⟨#[]⟩, .int .i64 0, .int .i64 0, .int .i64 0, .int .i64 0, .slice none 0 0]) rfl ?_ rfl ?_ (pw_own_below ho ?_) ?_ ?_ ?_ ?_; (focus (go_simp; done)); (focus (simp [Value.oneCell']; done)); (focus ((repeat (first | (with_reducible exact Below.refl _ _) | ((with_reducible refine Below.alloc ?_ ?hB _); (case hB => (first | omega | (simp; done) | (simp; omega)))) | ((with_reducible refine Below.setCell ?_ ?hB _); (case hB => (first | omega | (simp; done) | (simp; omega)))) | (with_reducible refine Below.drew ?_) | ((with_reducible refine below_ext_of ?_ ?hB); (case hB => (first | omega | (simp; done) | (simp; omega)))) | ((with_reducible refine Below.trans ?_ (Below.mono (by assumption) ?hB)); (case hB => (first | omega | (simp; done) | (simp; omega)))))); done)); (focus ((repeat (first | (with_reducible exact Below.refl _ _) | ((with_reducible refine Below.alloc ?_ ?hB _); (case hB => (first | omega | (simp; done) | (simp; omega)))) | ((with_reducible refine Below.setCell ?_ ?hB _); (case hB => (first | omega | (simp; done) | (simp; omega)))) | (with_reducible refine Below.drew ?_) | ((with_reducible refine below_ext_of ?_ ?hB); (case hB => (first | omega | (simp; done) | (simp; omega)))) | ((with_reducible refine Below.trans ?_ (Below.mono (by assumption) ?hB)); (case hB => (first | omega | (simp; done) | (simp; omega)))))); done)); (focus ((first | omega | (simp; done) | (simp; omega)); done)); (focus omega); intro v2 w2 hown2 hb2 _ _; have hz2 := hb2.size; (try simp only [World.size_alloc, World.size_setCell, World.size_drew] at hz2)))
            (go_roundw; (case rel => exact ⟨k + 1, by omega, by go_num, hb2, by rw [ht.out]; exact OwnV.snoc ⟨goodX (byN f k) x, none, 0⟩ (by rw [HY.out]; exact hown2) HL.out HR.out HQ.out⟩); (case measure => (simp [intOf]; omega)))
          · have t117 := True.intro
            by_cases c115 : byN f k = 115
            · obtain ⟨ns, hns⟩ : ∃ ns : Nat, ns = min x.s.size 20 := ⟨_, rfl⟩
              have e1 : min (x.s.size : Int) 20 = (ns : Int) := by omega
              have e3 : ns ≤ x.s.size := by omega
              have HY := Lib.hid (show (VH.mk (goodX (byN f k) x) none 0).cells = [.int .i64 1, .int .i64 0, .string (x.s.extract 0 ns), .int .i64 0, .int .i64 0, .int .i64 0, .int .i64 0, .slice none 0 0] from by unfold goodX; rw [if_neg c105]; rw [if_neg c117]; rw [if_pos c115]; rw [hns]; rfl)
              have HQ : Hid (VH.reads w ⟨goodX (byN f k) x, none, 0⟩) := Lib.hid (by unfold goodX; rw [if_neg c105]; rw [if_neg c117]; rw [if_pos c115]; exact ⟨Nat.le_refl _, reads_nilK w none⟩)
              have n105 : (byN f k == 105) = false := by simp; omega
              have n117 : (byN f k == 117) = false := by simp; omega
              have n115 : (byN f k == 115) = true := by simp; omega
              clear hns
              clear c105 c117 c115
              go_wp2_with (first | (at_builtin; refine print_append_cells (w0 := w) (w).heap.size rfl _ _ 22 41 _ 8 88 rfl Try.underlying22 info_v rfl (by decide) (by decide) _ _ _ ([.int .i64 1, .int .i64 0, .string (x.s.extract 0 ns), .int .i64 0, .int .i64 0, .int .i64 0, .int .i64 0, .slice none 0 0]) rfl ?_ rfl ?_ (pw_own_below ho ?_) ?_ ?_ ?_ ?_; (focus (go_simp; done)); (focus (simp [Value.oneCell']; done)); (focus ((repeat (first | (with_reducible exact Below.refl _ _) | ((with_reducible refine Below.alloc ?_ ?hB _); (case hB => (first | omega | (simp; done) | (simp; omega)))) | ((with_reducible refine Below.setCell ?_ ?hB _); (case hB => (first | omega | (simp; done) | (simp; omega)))) | (with_reducible refine Below.drew ?_) | ((with_reducible refine below_ext_of ?_ ?hB); (case hB => (first | omega | (simp; done) | (simp; omega)))) | ((with_reducible refine Below.trans ?_ (Below.mono (by assumption) ?hB)); (case hB => (first | omega | (simp; done) | (simp; omega)))))); done)); (focus ((repeat (first | (with_reducible exact Below.refl _ _) | ((with_reducible refine Below.alloc ?_ ?hB _); (case hB => (first | omega | (simp; done) | (simp; omega)))) | ((with_reducible refine Below.setCell ?_ ?hB _); (case hB => (first | omega | (simp; done) | (simp; omega)))) | (with_reducible refine Below.drew ?_) | ((with_reducible refine below_ext_of ?_ ?hB); (case hB => (first | omega | (simp; done) | (simp; omega)))) | ((with_reducible refine Below.trans ?_ (Below.mono (by assumption) ?hB)); (case hB => (first | omega | (simp; done) | (simp; omega)))))); done)); (focus ((first | omega | (simp; done) | (simp; omega)); done)); (focus omega); intro v2 w2 hown2 hb2 _ _; have hz2 := hb2.size; (try simp only [World.size_alloc, World.size_setCell, World.size_drew] at hz2)))
              (go_roundw; (case rel => exact ⟨k + 1, by omega, by go_num, hb2, by rw [ht.out]; exact OwnV.snoc ⟨goodX (byN f k) x, none, 0⟩ (by rw [HY.out]; exact hown2) HL.out HR.out HQ.out⟩); (case measure => (simp [intOf]; omega)))
            · have t115 := True.intro
              by_cases c114 : byN f k = 114
              · obtain ⟨q0, hq0⟩ : ∃ q, q = tm x.x0 := ⟨_, rfl⟩
                have r0 : q0 > -2147483648 ∧ q0 < 2147483648 := by rw [hq0]; exact tm_bd _
                obtain ⟨s0, t0⟩ := r0
                obtain ⟨q1, hq1⟩ : ∃ q, q = tm x.y0 := ⟨_, rfl⟩
                have r1 : q1 > -2147483648 ∧ q1 < 2147483648 := by rw [hq1]; exact tm_bd _
                obtain ⟨s1, t1⟩ := r1
                obtain ⟨q2, hq2⟩ : ∃ q, q = tm x.x1 := ⟨_, rfl⟩
                have r2 : q2 > -2147483648 ∧ q2 < 2147483648 := by rw [hq2]; exact tm_bd _
                obtain ⟨s2, t2⟩ := r2
                obtain ⟨q3, hq3⟩ : ∃ q, q = tm x.y1 := ⟨_, rfl⟩
                have r3 : q3 > -2147483648 ∧ q3 < 2147483648 := by rw [hq3]; exact tm_bd _
                obtain ⟨s3, t3⟩ := r3
                have HY := Lib.hid (show (VH.mk (goodX (byN f k) x) none 0).cells = [.int .i64 2, .int .i64 0, .string ⟨#[]⟩, .int .i64 q0, .int .i64 q1, .int .i64 q2, .int .i64 q3, .slice none 0 0] from by unfold goodX; rw [if_neg c105]; rw [if_neg c117]; rw [if_neg c115]; rw [if_pos c114]; rw [hq0, hq1, hq2, hq3]; rfl)
                have e50 : Int.tmod x.x0 2147483648 = q0 := hq0.symm
                have e51 : Int.tmod x.y0 2147483648 = q1 := hq1.symm
                have e52 : Int.tmod x.x1 2147483648 = q2 := hq2.symm
                have e53 : Int.tmod x.y1 2147483648 = q3 := hq3.symm
                have HQ : Hid (VH.reads w ⟨goodX (byN f k) x, none, 0⟩) := Lib.hid (by unfold goodX; rw [if_neg c105]; rw [if_neg c117]; rw [if_neg c115]; rw [if_pos c114]; exact ⟨Nat.le_refl _, reads_nilK w none⟩)
                have n105 : (byN f k == 105) = false := by simp; omega
                have n117 : (byN f k == 117) = false := by simp; omega
                have n115 : (byN f k == 115) = false := by simp; omega
                have n114 : (byN f k == 114) = true := by simp; omega
                clear hq0 hq1 hq2 hq3
                clear c105 c117 c115 c114
                go_wp2_with (first | (at_builtin; refine print_append_cells (w0 := w) (w).heap.size rfl _ _ 22 41 _ 8 88 rfl Try.underlying22 info_v rfl (by decide) (by decide) _ _ _ ([.int .i64 2, .int .i64 0, .string ⟨#[]⟩, .int .i64 q0, .int .i64 q1, .int .i64 q2, .int .i64 q3, .slice none 0 0]) rfl ?_ rfl ?_ (pw_own_below ho ?_) ?_ ?_ ?_ ?_; (focus (go_simp; done)); (focus (simp [Value.oneCell']; done)); (focus ((repeat (first | (with_reducible exact Below.refl _ _) | ((with_reducible refine Below.alloc ?_ ?hB _); (case hB => (first | omega | (simp; done) | (simp; omega)))) | ((with_reducible refine Below.setCell ?_ ?hB _); (case hB => (first | omega | (simp; done) | (simp; omega)))) | (with_reducible refine Below.drew ?_) | ((with_reducible refine below_ext_of ?_ ?hB); (case hB => (first | omega | (simp; done) | (simp; omega)))) | ((with_reducible refine Below.trans ?_ (Below.mono (by assumption) ?hB)); (case hB => (first | omega | (simp; done) | (simp; omega)))))); done)); (focus ((repeat (first | (with_reducible exact Below.refl _ _) | ((with_reducible refine Below.alloc ?_ ?hB _); (case hB => (first | omega | (simp; done) | (simp; omega)))) | ((with_reducible refine Below.setCell ?_ ?hB _); (case hB => (first | omega | (simp; done) | (simp; omega)))) | (with_reducible refine Below.drew ?_) | ((with_reducible refine below_ext_of ?_ ?hB); (case hB => (first | omega | (simp; done) | (simp; omega)))) | ((with_reducible refine Below.trans ?_ (Below.mono (by assumption) ?hB)); (case hB => (first | omega | (simp; done) | (simp; omega)))))); done)); (focus ((first | omega | (simp; done) | (simp; omega)); done)); (focus omega); intro v2 w2 hown2 hb2 _ _; have hz2 := hb2.size; (try simp only [World.size_alloc, World.size_setCell, World.size_drew] at hz2)))
                (go_roundw; (case rel => exact ⟨k + 1, by omega, by go_num, hb2, by rw [ht.out]; exact OwnV.snoc ⟨goodX (byN f k) x, none, 0⟩ (by rw [HY.out]; exact hown2) HL.out HR.out HQ.out⟩); (case measure => (simp [intOf]; omega)))
              · have t114 := True.intro
                have tt := True.intro
                obtain ⟨nb, hnb⟩ : ∃ nb : Nat, nb = min x.b.length 20 := ⟨_, rfl⟩
                have e2 : min (x.b.length : Int) 20 = (nb : Int) := by omega
                have e4 : nb ≤ x.b.length := by omega
                have hlen : (x.b.take nb).length = nb := by simp; omega
                have HY := Lib.hid (show (VH.mk (goodX (byN f k) x) Ab m).cells = [.int .i64 3, .int .i64 0, .string ⟨#[]⟩, .int .i64 0, .int .i64 0, .int .i64 0, .int .i64 0, .slice Ab nb m] from by unfold goodX; rw [if_neg c105]; rw [if_neg c117]; rw [if_neg c115]; rw [if_neg c114]; skip; simp only [VH.cells, ← hnb, hlen]; rfl)
                have HQ : Hid (VH.reads w ⟨goodX (byN f k) x, Ab, m⟩) := Lib.hid (by unfold goodX; rw [if_neg c105]; rw [if_neg c117]; rw [if_neg c115]; rw [if_neg c114]; skip; simp only [VH.reads, ← hnb, hlen]; exact ⟨by omega, HB.out.take_ nb (by omega)⟩)
                clear hlen hnb
                have n105 : (byN f k == 105) = false := by simp; omega
                have n117 : (byN f k == 117) = false := by simp; omega
                have n115 : (byN f k == 115) = false := by simp; omega
                have n114 : (byN f k == 114) = false := by simp; omega
                clear c105 c117 c115 c114
                go_wp2_with (first | (at_builtin; refine print_append_cells (w0 := w) (w).heap.size rfl _ _ 22 41 _ 8 88 rfl Try.underlying22 info_v rfl (by decide) (by decide) _ _ _ ([.int .i64 3, .int .i64 0, .string ⟨#[]⟩, .int .i64 0, .int .i64 0, .int .i64 0, .int .i64 0, .slice Ab nb m]) rfl ?_ rfl ?_ (pw_own_below ho ?_) ?_ ?_ ?_ ?_; (focus (go_simp; done)); (focus (simp [Value.oneCell']; done)); (focus ((repeat (first | (with_reducible exact Below.refl _ _) | ((with_reducible refine Below.alloc ?_ ?hB _); (case hB => (first | omega | (simp; done) | (simp; omega)))) | ((with_reducible refine Below.setCell ?_ ?hB _); (case hB => (first | omega | (simp; done) | (simp; omega)))) | (with_reducible refine Below.drew ?_) | ((with_reducible refine below_ext_of ?_ ?hB); (case hB => (first | omega | (simp; done) | (simp; omega)))) | ((with_reducible refine Below.trans ?_ (Below.mono (by assumption) ?hB)); (case hB => (first | omega | (simp; done) | (simp; omega)))))); done)); (focus ((repeat (first | (with_reducible exact Below.refl _ _) | ((with_reducible refine Below.alloc ?_ ?hB _); (case hB => (first | omega | (simp; done) | (simp; omega)))) | ((with_reducible refine Below.setCell ?_ ?hB _); (case hB => (first | omega | (simp; done) | (simp; omega)))) | (with_reducible refine Below.drew ?_) | ((with_reducible refine below_ext_of ?_ ?hB); (case hB => (first | omega | (simp; done) | (simp; omega)))) | ((with_reducible refine Below.trans ?_ (Below.mono (by assumption) ?hB)); (case hB => (first | omega | (simp; done) | (simp; omega)))))); done)); (focus ((first | omega | (simp; done) | (simp; omega)); done)); (focus omega); intro v2 w2 hown2 hb2 _ _; have hz2 := hb2.size; (try simp only [World.size_alloc, World.size_setCell, World.size_drew] at hz2)))
                (go_roundw; (case rel => exact ⟨k + 1, by omega, by go_num, hb2, by rw [ht.out]; exact OwnV.snoc ⟨goodX (byN f k) x, Ab, m⟩ (by rw [HY.out]; exact hown2) HL.out HR.out HQ.out⟩); (case measure => (simp [intOf]; omega)))
      · have HB : Hid (ReadsInt w .u8 none ([] : List Int).length []) := Lib.hid (reads_nilK w none)
        have hx0 := at8_out l k hin
        rw [hx0] at ht
        clear hx0 hr hok
        by_cases c105 : byN f k = 105
        · have HY := Lib.hid (show (VH.mk (goodX (byN f k) v0) none 0).cells = [.int .i64 0, .int .i64 0, .string ⟨#[]⟩, .int .i64 0, .int .i64 0, .int .i64 0, .int .i64 0, .slice none 0 0] from by unfold goodX; rw [if_pos c105]; rfl)
          have HQ : Hid (VH.reads w ⟨goodX (byN f k) v0, none, 0⟩) := Lib.hid (by unfold goodX; rw [if_pos c105]; exact ⟨Nat.le_refl _, reads_nilK w none⟩)
          have n105 : (byN f k == 105) = true := by simp; omega
          clear c105
          go_wp2_with (first | (at_builtin; refine print_append_cells (w0 := w) (w).heap.size rfl _ _ 22 41 _ 8 88 rfl Try.underlying22 info_v rfl (by decide) (by decide) _ _ _ ([.int .i64 0, .int .i64 0, .string ⟨#[]⟩, .int .i64 0, .int .i64 0, .int .i64 0, .int .i64 0, .slice none 0 0]) rfl ?_ rfl ?_ (pw_own_below ho ?_) ?_ ?_ ?_ ?_; (focus (go_simp; done)); (focus (simp [Value.oneCell']; done)); (focus ((repeat (first | (with_reducible exact Below.refl _ _) | ((with_reducible refine Below.alloc ?_ ?hB _); (case hB => (first | omega | (simp; done) | (simp; omega)))) | ((with_reducible refine Below.setCell ?_ ?hB _); (case hB => (first | omega | (simp; done) | (simp; omega)))) | (with_reducible refine Below.drew ?_) | ((with_reducible refine below_ext_of ?_ ?hB); (case hB => (first | omega | (simp; done) | (simp; omega)))) | ((with_reducible refine Below.trans ?_ (Below.mono (by assumption) ?hB)); (case hB => (first | omega | (simp; done) | (simp; omega)))))); done)); (focus ((repeat (first | (with_reducible exact Below.refl _ _) | ((with_reducible refine Below.alloc ?_ ?hB _); (case hB => (first | omega | (simp; done) | (simp; omega)))) | ((with_reducible refine Below.setCell ?_ ?hB _); (case hB => (first | omega | (simp; done) | (simp; omega)))) | (with_reducible refine Below.drew ?_) | ((with_reducible refine below_ext_of ?_ ?hB); (case hB => (first | omega | (simp; done) | (simp; omega)))) | ((with_reducible refine Below.trans ?_ (Below.mono (by assumption) ?hB)); (case hB => (first | omega | (simp; done) | (simp; omega)))))); done)); (focus ((first | omega | (simp; done) | (simp; omega)); done)); (focus omega); intro v2 w2 hown2 hb2 _ _; have hz2 := hb2.size; (try simp only [World.size_alloc, World.size_setCell, World.size_drew] at hz2)))
          (go_roundw; (case rel => exact ⟨k + 1, by omega, by go_num, hb2, by rw [ht.out]; exact OwnV.snoc ⟨goodX (byN f k) v0, none, 0⟩ (by rw [HY.out]; exact hown2) HL.out HR.out HQ.out⟩); (case measure => (simp [intOf]; omega)))
        · have t105 := True.intro
          by_cases c117 : byN f k = 117
          · have HY := Lib.hid (show (VH.mk (goodX (byN f k) v0) none 0).cells = [.int .i64 0, .int .i64 0, .string ⟨#[]⟩, .int .i64 0, .int .i64 0, .int .i64 0, .int .i64 0, .slice none 0 0] from by unfold goodX; rw [if_neg c105]; rw [if_pos c117]; rfl)
            have HQ : Hid (VH.reads w ⟨goodX (byN f k) v0, none, 0⟩) := Lib.hid (by unfold goodX; rw [if_neg c105]; rw [if_pos c117]; exact ⟨Nat.le_refl _, reads_nilK w none⟩)
            have n105 : (byN f k == 105) = false := by simp; omega
            have n117 : (byN f k == 117) = true := by simp; omega
            clear c105 c117
            go_wp2_with (first | (at_builtin; refine print_append_cells (w0 := w) (w).heap.size rfl _ _ 22 41 _ 8 88 rfl Try.underlying22 info_v rfl (by decide) (by decide) _ _ _ ([.int .i64 0, .int .i64 0, .string ⟨#[]⟩, .int .i64 0, .int .i64 0, .int .i64 0, .int .i64 0, .slice none 0 0]) rfl ?_ rfl ?_ (pw_own_below ho ?_) ?_ ?_ ?_ ?_; (focus (go_simp; done)); (focus (simp [Value.oneCell']; done)); (focus ((repeat (first | (with_reducible exact Below.refl _ _) | ((with_reducible refine Below.alloc ?_ ?hB _); (case hB => (first | omega | (simp; done) | (simp; omega)))) | ((with_reducible refine Below.setCell ?_ ?hB _); (case hB => (first | omega | (simp; done) | (simp; omega)))) | (with_reducible refine Below.drew ?_) | ((with_reducible refine below_ext_of ?_ ?hB); (case hB => (first | omega | (simp; done) | (simp; omega)))) | ((with_reducible refine Below.trans ?_ (Below.mono (by assumption) ?hB)); (case hB => (first | omega | (simp; done) | (simp; omega)))))); done)); (focus ((repeat (first | (with_reducible exact Below.refl _ _) | ((with_reducible refine Below.alloc ?_ ?hB _); (case hB => (first | omega | (simp; done) | (simp; omega)))) | ((with_reducible refine Below.setCell ?_ ?hB _); (case hB => (first | omega | (simp; done) | (simp; omega)))) | (with_reducible refine Below.drew ?_) | ((with_reducible refine below_ext_of ?_ ?hB); (case hB => (first | omega | (simp; done) | (simp; omega)))) | ((with_reducible refine Below.trans ?_ (Below.mono (by assumption) ?hB)); (case hB => (first | omega | (simp; done) | (simp; omega)))))); done)); (focus ((first | omega | (simp; done) | (simp; omega)); done)); (focus omega); intro v2 w2 hown2 hb2 _ _; have hz2 := hb2.size; (try simp only [World.size_alloc, World.size_setCell, World.size_drew] at hz2)))
            (go_roundw; (case rel => exact ⟨k + 1, by omega, by go_num, hb2, by rw [ht.out]; exact OwnV.snoc ⟨goodX (byN f k) v0, none, 0⟩ (by rw [HY.out]; exact hown2) HL.out HR.out HQ.out⟩); (case measure => (simp [intOf]; omega)))
          · have t117 := True.intro
            by_cases c115 : byN f k = 115
            · have ez : (ByteArray.mk #[]).size = 0 := rfl
              have HY := Lib.hid (show (VH.mk (goodX (byN f k) v0) none 0).cells = [.int .i64 1, .int .i64 0, .string ⟨#[]⟩, .int .i64 0, .int .i64 0, .int .i64 0, .int .i64 0, .slice none 0 0] from by unfold goodX; rw [if_neg c105]; rw [if_neg c117]; rw [if_pos c115]; rfl)
              have HQ : Hid (VH.reads w ⟨goodX (byN f k) v0, none, 0⟩) := Lib.hid (by unfold goodX; rw [if_neg c105]; rw [if_neg c117]; rw [if_pos c115]; exact ⟨Nat.le_refl _, reads_nilK w none⟩)
              have n105 : (byN f k == 105) = false := by simp; omega
              have n117 : (byN f k == 117) = false := by simp; omega
              have n115 : (byN f k == 115) = true := by simp; omega
              clear c105 c117 c115
              go_wp2_with (first | (at_builtin; refine print_append_cells (w0 := w) (w).heap.size rfl _ _ 22 41 _ 8 88 rfl Try.underlying22 info_v rfl (by decide) (by decide) _ _ _ ([.int .i64 1, .int .i64 0, .string ⟨#[]⟩, .int .i64 0, .int .i64 0, .int .i64 0, .int .i64 0, .slice none 0 0]) rfl ?_ rfl ?_ (pw_own_below ho ?_) ?_ ?_ ?_ ?_; (focus (go_simp; done)); (focus (simp [Value.oneCell']; done)); (focus ((repeat (first | (with_reducible exact Below.refl _ _) | ((with_reducible refine Below.alloc ?_ ?hB _); (case hB => (first | omega | (simp; done) | (simp; omega)))) | ((with_reducible refine Below.setCell ?_ ?hB _); (case hB => (first | omega | (simp; done) | (simp; omega)))) | (with_reducible refine Below.drew ?_) | ((with_reducible refine below_ext_of ?_ ?hB); (case hB => (first | omega | (simp; done) | (simp; omega)))) | ((with_reducible refine Below.trans ?_ (Below.mono (by assumption) ?hB)); (case hB => (first | omega | (simp; done) | (simp; omega)))))); done)); (focus ((repeat (first | (with_reducible exact Below.refl _ _) | ((with_reducible refine Below.alloc ?_ ?hB _); (case hB => (first | omega | (simp; done) | (simp; omega)))) | ((with_reducible refine Below.setCell ?_ ?hB _); (case hB => (first | omega | (simp; done) | (simp; omega)))) | (with_reducible refine Below.drew ?_) | ((with_reducible refine below_ext_of ?_ ?hB); (case hB => (first | omega | (simp; done) | (simp; omega)))) | ((with_reducible refine Below.trans ?_ (Below.mono (by assumption) ?hB)); (case hB => (first | omega | (simp; done) | (simp; omega)))))); done)); (focus ((first | omega | (simp; done) | (simp; omega)); done)); (focus omega); intro v2 w2 hown2 hb2 _ _; have hz2 := hb2.size; (try simp only [World.size_alloc, World.size_setCell, World.size_drew] at hz2)))
              (go_roundw; (case rel => exact ⟨k + 1, by omega, by go_num, hb2, by rw [ht.out]; exact OwnV.snoc ⟨goodX (byN f k) v0, none, 0⟩ (by rw [HY.out]; exact hown2) HL.out HR.out HQ.out⟩); (case measure => (simp [intOf]; omega)))
            · have t115 := True.intro
              by_cases c114 : byN f k = 114
              · have HY := Lib.hid (show (VH.mk (goodX (byN f k) v0) none 0).cells = [.int .i64 2, .int .i64 0, .string ⟨#[]⟩, .int .i64 0, .int .i64 0, .int .i64 0, .int .i64 0, .slice none 0 0] from by unfold goodX; rw [if_neg c105]; rw [if_neg c117]; rw [if_neg c115]; rw [if_pos c114]; rfl)
                have HQ : Hid (VH.reads w ⟨goodX (byN f k) v0, none, 0⟩) := Lib.hid (by unfold goodX; rw [if_neg c105]; rw [if_neg c117]; rw [if_neg c115]; rw [if_pos c114]; exact ⟨Nat.le_refl _, reads_nilK w none⟩)
                have n105 : (byN f k == 105) = false := by simp; omega
                have n117 : (byN f k == 117) = false := by simp; omega
                have n115 : (byN f k == 115) = false := by simp; omega
                have n114 : (byN f k == 114) = true := by simp; omega
                clear c105 c117 c115 c114
                go_wp2_with (first | (at_builtin; refine print_append_cells (w0 := w) (w).heap.size rfl _ _ 22 41 _ 8 88 rfl Try.underlying22 info_v rfl (by decide) (by decide) _ _ _ ([.int .i64 2, .int .i64 0, .string ⟨#[]⟩, .int .i64 0, .int .i64 0, .int .i64 0, .int .i64 0, .slice none 0 0]) rfl ?_ rfl ?_ (pw_own_below ho ?_) ?_ ?_ ?_ ?_; (focus (go_simp; done)); (focus (simp [Value.oneCell']; done)); (focus ((repeat (first | (with_reducible exact Below.refl _ _) | ((with_reducible refine Below.alloc ?_ ?hB _); (case hB => (first | omega | (simp; done) | (simp; omega)))) | ((with_reducible refine Below.setCell ?_ ?hB _); (case hB => (first | omega | (simp; done) | (simp; omega)))) | (with_reducible refine Below.drew ?_) | ((with_reducible refine below_ext_of ?_ ?hB); (case hB => (first | omega | (simp; done) | (simp; omega)))) | ((with_reducible refine Below.trans ?_ (Below.mono (by assumption) ?hB)); (case hB => (first | omega | (simp; done) | (simp; omega)))))); done)); (focus ((repeat (first | (with_reducible exact Below.refl _ _) | ((with_reducible refine Below.alloc ?_ ?hB _); (case hB => (first | omega | (simp; done) | (simp; omega)))) | ((with_reducible refine Below.setCell ?_ ?hB _); (case hB => (first | omega | (simp; done) | (simp; omega)))) | (with_reducible refine Below.drew ?_) | ((with_reducible refine below_ext_of ?_ ?hB); (case hB => (first | omega | (simp; done) | (simp; omega)))) | ((with_reducible refine Below.trans ?_ (Below.mono (by assumption) ?hB)); (case hB => (first | omega | (simp; done) | (simp; omega)))))); done)); (focus ((first | omega | (simp; done) | (simp; omega)); done)); (focus omega); intro v2 w2 hown2 hb2 _ _; have hz2 := hb2.size; (try simp only [World.size_alloc, World.size_setCell, World.size_drew] at hz2)))
                (go_roundw; (case rel => exact ⟨k + 1, by omega, by go_num, hb2, by rw [ht.out]; exact OwnV.snoc ⟨goodX (byN f k) v0, none, 0⟩ (by rw [HY.out]; exact hown2) HL.out HR.out HQ.out⟩); (case measure => (simp [intOf]; omega)))
              · have t114 := True.intro
                have tt := True.intro
                have HY := Lib.hid (show (VH.mk (goodX (byN f k) v0) none 0).cells = [.int .i64 3, .int .i64 0, .string ⟨#[]⟩, .int .i64 0, .int .i64 0, .int .i64 0, .int .i64 0, .slice none 0 0] from by unfold goodX; rw [if_neg c105]; rw [if_neg c117]; rw [if_neg c115]; rw [if_neg c114]; skip; rfl)
                have HQ : Hid (VH.reads w ⟨goodX (byN f k) v0, none, 0⟩) := Lib.hid (by unfold goodX; rw [if_neg c105]; rw [if_neg c117]; rw [if_neg c115]; rw [if_neg c114]; skip; exact ⟨Nat.le_refl _, reads_nilK w none⟩)
                have n105 : (byN f k == 105) = false := by simp; omega
                have n117 : (byN f k == 117) = false := by simp; omega
                have n115 : (byN f k == 115) = false := by simp; omega
                have n114 : (byN f k == 114) = false := by simp; omega
                clear c105 c117 c115 c114
                go_wp2_with (first | (at_builtin; refine print_append_cells (w0 := w) (w).heap.size rfl _ _ 22 41 _ 8 88 rfl Try.underlying22 info_v rfl (by decide) (by decide) _ _ _ ([.int .i64 3, .int .i64 0, .string ⟨#[]⟩, .int .i64 0, .int .i64 0, .int .i64 0, .int .i64 0, .slice none 0 0]) rfl ?_ rfl ?_ (pw_own_below ho ?_) ?_ ?_ ?_ ?_; (focus (go_simp; done)); (focus (simp [Value.oneCell']; done)); (focus ((repeat (first | (with_reducible exact Below.refl _ _) | ((with_reducible refine Below.alloc ?_ ?hB _); (case hB => (first | omega | (simp; done) | (simp; omega)))) | ((with_reducible refine Below.setCell ?_ ?hB _); (case hB => (first | omega | (simp; done) | (simp; omega)))) | (with_reducible refine Below.drew ?_) | ((with_reducible refine below_ext_of ?_ ?hB); (case hB => (first | omega | (simp; done) | (simp; omega)))) | ((with_reducible refine Below.trans ?_ (Below.mono (by assumption) ?hB)); (case hB => (first | omega | (simp; done) | (simp; omega)))))); done)); (focus ((repeat (first | (with_reducible exact Below.refl _ _) | ((with_reducible refine Below.alloc ?_ ?hB _); (case hB => (first | omega | (simp; done) | (simp; omega)))) | ((with_reducible refine Below.setCell ?_ ?hB _); (case hB => (first | omega | (simp; done) | (simp; omega)))) | (with_reducible refine Below.drew ?_) | ((with_reducible refine below_ext_of ?_ ?hB); (case hB => (first | omega | (simp; done) | (simp; omega)))) | ((with_reducible refine Below.trans ?_ (Below.mono (by assumption) ?hB)); (case hB => (first | omega | (simp; done) | (simp; omega)))))); done)); (focus ((first | omega | (simp; done) | (simp; omega)); done)); (focus omega); intro v2 w2 hown2 hb2 _ _; have hz2 := hb2.size; (try simp only [World.size_alloc, World.size_setCell, World.size_drew] at hz2)))
                (go_roundw; (case rel => exact ⟨k + 1, by omega, by go_num, hb2, by rw [ht.out]; exact OwnV.snoc ⟨goodX (byN f k) v0, none, 0⟩ (by rw [HY.out]; exact hown2) HL.out HR.out HQ.out⟩); (case measure => (simp [intOf]; omega)))
    · obtain rfl : k = f.size := by omega
      have HO := Lib.hid hown
      obtain ⟨L, hL, hLn, ho, hrd⟩ := hown.row_n
      obtain ⟨Av, cv, rfl⟩ := own_slice ho
      clear hL hLn hrd ho hown hr hok
      go_wp2_with fail
      go_ret
      exact ⟨_, rfl, HO.out, hbr⟩
end Go.Proofs.Yteldbnelfeiifaa
