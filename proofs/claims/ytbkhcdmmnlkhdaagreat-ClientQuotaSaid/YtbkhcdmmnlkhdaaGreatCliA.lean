/- What is done by each operation: the map of kinds and functions. -/
import Derived.Test.YtbkhcdmmnlkhdaaGreatIdsA
namespace Go.Proofs.YtbkhcdmmnlkhdaaGreat
open Go.RowKit Go.Maps Go.Proofs.YtbkhcdmmnlkhdaaGreatW.PrintWords
set_option linter.unusedSimpArgs false
set_option linter.unusedVariables false
set_option maxRecDepth 1000000
section
variable {P : Program} (w : World) (a : Addr) (m : Mode)
theorem run_store_func (f : Fn) (cs : Array Value) : (store a (.func f #[] cs) m).run P w = stored P w a (.func f #[] cs) m := run_store P w a _ m rfl
end
attribute [local go_sem] run_store_func
/-- A reader of a map's elements out of an encoding. -/
noncomputable def rdr {α : Type} (enc : α → Value) (dat : α → DataW Unit) (v : Value) : Option (DataW Unit × List MemPlace) := open Classical in if h : ∃ x, v = enc x then some (dat h.choose, []) else none
theorem rdr_mk {α : Type} {enc : α → Value} {dat : α → DataW Unit} (hinj : ∀ x y, enc x = enc y → x = y) (x : α) : rdr enc dat (enc x) = some (dat x, []) := by
  have h : ∃ y, enc x = enc y := ⟨x, rfl⟩
  unfold rdr
  rw [dif_pos h, ← hinj _ _ h.choose_spec]
theorem rdr_inv {α : Type} {enc : α → Value} {dat : α → DataW Unit} {v : Value} {d : DataW Unit} {ps : List MemPlace} (h : rdr enc dat v = some (d, ps)) : ∃ x, v = enc x ∧ d = dat x ∧ ps = [] := by
  unfold rdr at h
  split at h
  · rename_i hx
    injection h with h
    injection h with h1 h2
    exact ⟨_, hx.choose_spec, h1.symm, h2.symm⟩
  · cases h
/-- A kind and a function. -/
def encF : Int × Option Nat → Value
  | (k, some f) => .agg #[.int .i64 k, .func (.func f) #[] #[]]
  | (k, none) => .agg #[.int .i64 k, .nilFunc]
def datF : Int × Option Nat → DataW Unit
  | (k, some f) => .agg [.lit (.int .i64 k), .lit (.int .i64 f)]
  | (k, none) => .agg [.lit (.int .i64 k), .nil]
theorem encF_inj : ∀ x y, encF x = encF y → x = y := by
  rintro ⟨k, f⟩ ⟨l, g⟩ h
  cases f <;> cases g <;> simp [encF] at h <;> simp [h]
theorem datF_inj : ∀ x y, datF x = datF y → x = y := by
  rintro ⟨k, f⟩ ⟨l, g⟩ h
  cases f <;> cases g <;> simp [datF] at h
  · simp [h]
  · obtain ⟨h1, h2⟩ := h
    have h3 := Int.ofNat.inj h2
    simp [h1, h3]
noncomputable abbrev elemF : Value → Option (DataW Unit × List MemPlace) := rdr encF datF
theorem elemF_mk (k : Int) (f : Nat) : elemF (.agg #[.int .i64 k, .func (.func f) #[] #[]]) = some (.agg [.lit (.int .i64 k), .lit (.int .i64 f)], []) := rdr_mk encF_inj (k, some f)
theorem elemF_nil : elemF (.agg #[.int .i64 0, .nilFunc]) = some (.agg [.lit (.int .i64 0), .nil], []) := rdr_mk encF_inj (0, none)
theorem elemF_inv {v : Value} {k : Int} {f : Nat} {ps : List MemPlace} (h : elemF v = some (.agg [.lit (.int .i64 k), .lit (.int .i64 f)], ps)) : v = .agg #[.int .i64 k, .func (.func f) #[] #[]] := by
  obtain ⟨x, rfl, hd, _⟩ := rdr_inv h
  have := datF_inj (k, some f) x hd
  rw [← this]; rfl
theorem wpList_insert_in {H : Type} {P : Program} {w : World} {ops : Array Oper} {rest : List Oper} {o : Oper} {a : Act} {Q : Exit → Act → World → Prop} (hg : o.guard = none) (m x v : Operand) (t : TypeId) (hop : o.op = Op.insert t m x v)
    (k e : TypeId) (K : Keyed P k) (ht : P.underlying t = some (.map k e)) (R : Value → Option (DataW H × List MemPlace)) (b n : Nat) (D : DataW H)
    (hm : a.eval m = .map (some b)) (hown : w.ownsMap P k R b n D) (hn : n < maxLen) (key val : Value) (kl : Lit) (hx : a.eval x = key) (hv : a.eval v = val) (hkey : keyOf P k key = some kl)
    (d : DataW H) (ps : List MemPlace) (hval : R val = some (d, ps))
    (hK : ∀ w', w'.ownsMap P k R b (n + 1) (D.put kl d) → w.mapTurned w' b → wpList P ops Q rest (a.put o.dst undef) w') :
    wpList P ops Q (o :: rest) a w := by
  refine wpList_plain hg fun K' hK' => ?_
  obtain ⟨w', hrun, r1, r2⟩ := hown.store K ht hn hkey hval
  unfold Oper.wp
  simp [execOp, hop, hm, hx, hv, hrun, Result.andThen]
  exact hK' _ _ (hK w' r1 r2)
def l10 : List (Int × Int × Nat) := [(0, 0, 53), (1, 1, 54), (2, 1, 55), (3, 0, 56), (4, 2, 57), (5, 2, 58), (8, 2, 59), (16, 2, 60), (17, 2, 61), (18, 0, 62)]
def D10 : DataW Unit := l10.foldl (fun D e => D.put (.int .i64 e.1) (datF (e.2.1, some e.2.2))) (.map [])
def opsS : List Int := [6, 7, 9, 10, 11, 12, 13, 14, 15]
def Dl (j : Nat) : DataW Unit := (opsS.take j).foldl (fun D op => D.put (.int .i64 op) (.agg [.lit (.int .i64 2), .lit (.int .i64 63)])) D10
theorem Dl_16 : ∀ j, j ≤ 9 → ∀ z, (Dl j).atKey (.int .i64 16) z = (.agg [.lit (.int .i64 2), .lit (.int .i64 60)]) := by
  intro j hj z
  match j, hj with
  | 0, _ => rfl
  | 1, _ => rfl
  | 2, _ => rfl
  | 3, _ => rfl
  | 4, _ => rfl
  | 5, _ => rfl
  | 6, _ => rfl
  | 7, _ => rfl
  | 8, _ => rfl
  | 9, _ => rfl
theorem Dl_step (j : Nat) (h : j < 9) : Dl (j + 1) = (Dl j).put (.int .i64 (opsS.getD j 0)) (.agg [.lit (.int .i64 2), .lit (.int .i64 63)]) := by
  unfold Dl
  rw [List.take_succ_eq_append_getElem (show j < opsS.length from h), List.foldl_append, List.getD_eq_getElem?_getD, List.getElem?_eq_getElem (show j < opsS.length from h)]
  rfl
theorem ops_bd (j : Nat) (h : j < 9) : -100 ≤ opsS.getD j 0 ∧ opsS.getD j 0 ≤ 100 := by
  match j, h with
  | 0, _ => decide
  | 1, _ => decide
  | 2, _ => decide
  | 3, _ => decide
  | 4, _ => decide
  | 5, _ => decide
  | 6, _ => decide
  | 7, _ => decide
  | 8, _ => decide
theorem zD (w : World) : (zeroValue 91).run Tryz.prog w = .ok (.agg #[.int .i64 0, .nilFunc]) w := by kernel_rfl
theorem kw (x : Int) (h : -100 ≤ x ∧ x ≤ 100) : keyOf Tryz.prog 3 (.int .i64 x) = some (.int .i64 x) := keyOf_int_mk Tryz.underlying3 (WalkArith.wf_i64 (by omega))
theorem cli_all (w : World) : Calls Tryz.prog 29 #[] w fun e w' => e = .returned (.map (some w.heap.size)) ∧ w'.ownsMap Tryz.prog 3 elemF w.heap.size 19 (Dl 9) ∧ Below w.heap.size w w' := by
  have hmm := @run_makeMap Tryz.prog
  have hown0 := World.ownsMap_made w Tryz.prog 3 elemF
  go_enter Tryz.func29, Tryz.ntmps29
  go_wp2_with (first | (refine wpList_insert_in rfl _ _ _ 92 rfl 3 91 kInt Tryz.underlying92 elemF w.heap.size 0 _ rfl hown0 (by unfold maxLen; omega) _ _ _ rfl rfl (kw 0 (by omega)) (.agg [.lit (.int .i64 0), .lit (.int .i64 53)]) [] (elemF_mk _ _) ?_; intro w1 hown1 ht1) | (refine wpList_insert_in rfl _ _ _ 92 rfl 3 91 kInt Tryz.underlying92 elemF w.heap.size 1 _ rfl hown1 (by unfold maxLen; omega) _ _ _ rfl rfl (kw 1 (by omega)) (.agg [.lit (.int .i64 1), .lit (.int .i64 54)]) [] (elemF_mk _ _) ?_; intro w2 hown2 ht2) | (refine wpList_insert_in rfl _ _ _ 92 rfl 3 91 kInt Tryz.underlying92 elemF w.heap.size 2 _ rfl hown2 (by unfold maxLen; omega) _ _ _ rfl rfl (kw 2 (by omega)) (.agg [.lit (.int .i64 1), .lit (.int .i64 55)]) [] (elemF_mk _ _) ?_; intro w3 hown3 ht3) | (refine wpList_insert_in rfl _ _ _ 92 rfl 3 91 kInt Tryz.underlying92 elemF w.heap.size 3 _ rfl hown3 (by unfold maxLen; omega) _ _ _ rfl rfl (kw 3 (by omega)) (.agg [.lit (.int .i64 0), .lit (.int .i64 56)]) [] (elemF_mk _ _) ?_; intro w4 hown4 ht4) | (refine wpList_insert_in rfl _ _ _ 92 rfl 3 91 kInt Tryz.underlying92 elemF w.heap.size 4 _ rfl hown4 (by unfold maxLen; omega) _ _ _ rfl rfl (kw 4 (by omega)) (.agg [.lit (.int .i64 2), .lit (.int .i64 57)]) [] (elemF_mk _ _) ?_; intro w5 hown5 ht5) | (refine wpList_insert_in rfl _ _ _ 92 rfl 3 91 kInt Tryz.underlying92 elemF w.heap.size 5 _ rfl hown5 (by unfold maxLen; omega) _ _ _ rfl rfl (kw 5 (by omega)) (.agg [.lit (.int .i64 2), .lit (.int .i64 58)]) [] (elemF_mk _ _) ?_; intro w6 hown6 ht6) | (refine wpList_insert_in rfl _ _ _ 92 rfl 3 91 kInt Tryz.underlying92 elemF w.heap.size 6 _ rfl hown6 (by unfold maxLen; omega) _ _ _ rfl rfl (kw 8 (by omega)) (.agg [.lit (.int .i64 2), .lit (.int .i64 59)]) [] (elemF_mk _ _) ?_; intro w7 hown7 ht7) | (refine wpList_insert_in rfl _ _ _ 92 rfl 3 91 kInt Tryz.underlying92 elemF w.heap.size 7 _ rfl hown7 (by unfold maxLen; omega) _ _ _ rfl rfl (kw 16 (by omega)) (.agg [.lit (.int .i64 2), .lit (.int .i64 60)]) [] (elemF_mk _ _) ?_; intro w8 hown8 ht8) | (refine wpList_insert_in rfl _ _ _ 92 rfl 3 91 kInt Tryz.underlying92 elemF w.heap.size 8 _ rfl hown8 (by unfold maxLen; omega) _ _ _ rfl rfl (kw 17 (by omega)) (.agg [.lit (.int .i64 2), .lit (.int .i64 61)]) [] (elemF_mk _ _) ?_; intro w9 hown9 ht9) | (refine wpList_insert_in rfl _ _ _ 92 rfl 3 91 kInt Tryz.underlying92 elemF w.heap.size 9 _ rfl hown9 (by unfold maxLen; omega) _ _ _ rfl rfl (kw 18 (by omega)) (.agg [.lit (.int .i64 0), .lit (.int .i64 62)]) [] (elemF_mk _ _) ?_; intro w10 hown10 ht10))
  have hownD := Lib.hid (show w10.ownsMap Tryz.prog 3 elemF w.heap.size 10 D10 from hown10)
  have hB10 : Below w.heap.size w w10 := by
    have key : ∀ {a b : World}, w.heap.size ≤ a.heap.size → Below w.heap.size w a → a.mapTurned b w.heap.size → Below w.heap.size w b := fun hs hb ht => hb.grown ht.grown hs (fun k e => by cases e; exact Nat.le_refl _)
    have b0 : Below w.heap.size w (w.alloc (.map #[] 0)) := by (repeat (first | (with_reducible exact Below.refl _ _) | ((with_reducible refine Below.alloc ?_ ?hB _); (case hB => (first | omega | (simp; done) | (simp; omega)))) | ((with_reducible refine Below.setCell ?_ ?hB _); (case hB => (first | omega | (simp; done) | (simp; omega)))) | (with_reducible refine Below.drew ?_) | ((with_reducible refine below_ext_of ?_ ?hB); (case hB => (first | omega | (simp; done) | (simp; omega)))) | ((with_reducible refine Below.trans ?_ (Below.mono (by assumption) ?hB)); (case hB => (first | omega | (simp; done) | (simp; omega))))))
    have b1 := key b0.size b0 ht1
    have b2 := key b1.size b1 ht2
    have b3 := key b2.size b2 ht3
    have b4 := key b3.size b3 ht4
    have b5 := key b4.size b4 ht5
    have b6 := key b5.size b5 ht6
    have b7 := key b6.size b6 ht7
    have b8 := key b7.size b7 ht8
    have b9 := key b8.size b8 ht9
    exact key b9.size b9 ht10
  clear hown0 hown1 hown2 hown3 hown4 hown5 hown6 hown7 hown8 hown9 hown10 ht1 ht2 ht3 ht4 ht5 ht6 ht7 ht8 ht9 ht10
  have hlt10 := hownD.out.lt
  have hlit : (w10.alloc (.cells #[.int .i64 6, .int .i64 7, .int .i64 9, .int .i64 10, .int .i64 11, .int .i64 12, .int .i64 13, .int .i64 14, .int .i64 15] 3)).heap[w10.heap.size]? = some (.cells (opsS.map (fun x => Value.int .i64 x)).toArray 3 (0, 0)) := blk_new _ _
  have hownL := Lib.hid (hownD.out.alloc (.cells #[.int .i64 6, .int .i64 7, .int .i64 9, .int .i64 10, .int .i64 11, .int .i64 12, .int .i64 13, .int .i64 14, .int .i64 15] 3))
  have hBL : Below w.heap.size w (w10.alloc (.cells #[.int .i64 6, .int .i64 7, .int .i64 9, .int .i64 10, .int .i64 11, .int .i64 12, .int .i64 13, .int .i64 14, .int .i64 15] 3)) := hB10.alloc hB10.size _
  clear hownD hB10
  go_loopw [19] (fun i wr => ∃ j : Nat, j ≤ 9 ∧ i = .int .i64 j ∧ Hid (wr.ownsMap Tryz.prog 3 elemF w.heap.size (10 + j) (Dl j)) ∧ Hid (wr.heap[w10.heap.size]? = some (.cells (opsS.map (fun x => Value.int .i64 x)).toArray 3 (0, 0))) ∧ Hid (Below w.heap.size w wr)) (fun i _ => 9 - (intOf i).toNat)
  case atStart => exact ⟨0, by omega, rfl, hownL, Lib.hid hlit, Lib.hid hBL⟩
  case round =>
    obtain ⟨j, hj, rfl, hm, hg, hb⟩ := hrel
    by_cases hlt : j < 9
    · have hop := ops_bd j hlt
      have hst := Lib.hid (Dl_step j hlt)
      have g0 : wr.cell? ⟨w10.heap.size, j, none⟩ = some (.int .i64 (opsS.getD j 0)) := by
        rw [blk_cell hg.out, List.getElem?_toArray, List.getElem?_map, List.getElem?_eq_getElem (show j < opsS.length from hlt), List.getD_eq_getElem?_getD, List.getElem?_eq_getElem (show j < opsS.length from hlt)]
        rfl
      obtain ⟨op, hopq⟩ : ∃ op, opsS.getD j 0 = op := ⟨_, rfl⟩
      rw [hopq] at hop hst g0
      clear hopq
      obtain ⟨v, ps, hrun, hR⟩ := hm.out.lookup kInt Tryz.underlying92 (zD wr) elemF_nil (kw 16 (by omega))
      rw [Dl_16 j hj] at hR
      obtain rfl := elemF_inv hR
      clear hR
      have hkey := kw op hop
      have hml := Lib.hid (hm.out.alloc (.cells #[.int .i64 2, .func (.func 63) #[] #[]] 91))
      have hzw := hb.out.size
      have hlw := hm.out.lt
      have hgl := blk_lt hg.out
      go_wp2_with (first | (at_mapUpdate; refine wpList_mapUpdate_in _ rfl _ _ _ 92 rfl 3 91 kInt Tryz.underlying92 _ w.heap.size (10 + j) (Dl j) rfl hml.out (by unfold maxLen; omega) _ _ _ rfl rfl hkey _ [] (elemF_mk 2 63) ?_; intro w3 hown3 ht3))
      have hg3 := ht3.grown
      have hba : Below w.heap.size w (wr.alloc (.cells #[.int .i64 2, .func (.func 63) #[] #[]] 91)) := hb.out.alloc hzw _
      go_roundw
      case rel =>
        refine ⟨j + 1, by omega, by go_num, Lib.hid ?_, Lib.hid ?_, Lib.hid ?_⟩
        · rw [hst.out]; exact hown3
        · exact (hg3.block w10.heap.size (by simp; omega) (fun e => by injection e with e; omega)).trans (blk_alloc hg.out _)
        · exact hba.grown hg3 hba.size (fun k e => by cases e; exact Nat.le_refl _)
      case measure => simp [intOf]; omega
    · obtain rfl : j = 9 := by omega
      go_wp2
      go_ret
      exact ⟨rfl, hm.out, hb.out⟩
end Go.Proofs.YtbkhcdmmnlkhdaaGreat
