/- An iterator that ranges over an iterator within: all keys from the topmost one on. -/
import Derived.Test.YteldbnelfeiifaaStkT
import Derived.RangeFuncNested
import Derived.RangeFuncBound
import Derived.RangeFuncCalls
import Derived.RangeFuncLeaves
import Derived.Shelf.Abstract
import Derived.Shelf.RegionOpen
import Derived.WalkKit
import Derived.OwnWalkIn
import Derived.TacticsInMore
import Derived.LoopNIn
import Derived.LoopIn
namespace Go.Proofs.Yteldbnelfeiifaa
open Go.RowKit Go.Shelf Go.Proofs.YteldbnelfeiifaaW.PrintWords
set_option linter.unusedSimpArgs false
set_option linter.unusedVariables false
set_option maxRecDepth 1000000
attribute [local go_sem] Oper.semAt_some
/-- The contract of an iterator whose own walk lays loops' records and turns them: what the caller says of a world must abide the turn of whatever block that is no cells and new; a round keeps what is no cells and new. -/
def SeqO {α : Type} (F : Fence) (n : Nat) (P : Program) (g : Nat) (lb : Array Value) (encs : α → Array Value) (Kp : World → World → Prop) (S Sp : List α → Prop) (N : Nat) (w : World) : Prop :=
  ∀ (l : Nat) (J Jx : List α → World → Prop) (W : World), Below w.heap.size w W → OwnFrom W.heap.size J → OwnFrom W.heap.size Jx →
    (∀ pre x W1, J pre W1 → pre.length < N → YieldAt F (n - 1) P l (encs x) W1 fun e W' =>
      (e = .returned (.bool true) ∧ J (pre ++ [x]) W' ∧ Kp W1 W' ∧ KeepsFrom W.heap.size W1 W') ∨ (e = .returned (.bool false) ∧ Jx (pre ++ [x]) W' ∧ KeepsFrom W.heap.size W1 W')) →
    J [] W →
    CallsIn F n P g (#[.func (.yield l) #[] #[]] ++ lb) W fun e W' => (∃ v, e = .returned v) ∧ ((∃ xs, S xs ∧ J xs W') ∨ (∃ pre, Sp pre ∧ Jx pre W'))
theorem kf_mono {B B' : Nat} {X Y : World} (h : KeepsFrom B X Y) (hB : B ≤ B') : KeepsFrom B' X Y := ⟨h.size, fun k o hk => h.same k o (Nat.le_trans hB hk)⟩
theorem kf_put {B l : Nat} (W : World) (o : Obj) (h : l < B) : KeepsFrom B W (W.putObj l o) := KeepsFrom.of_grownBy (grownBy_putObj' W l o) (fun j e => by cases e; exact h)
theorem wpIn_rangeFunc_ownO {α : Type} {F : Fence} {n : Nat} {P : Program} {g : Operand} {ps : Array Tmp} {assign body : Code} {Q : Exit → Act → World → Prop} {a : Act} {w : World}
    (hro : F.round = none) (h1 : 1 ≤ n) {gf : Nat} {lb : Array Value} (hg : a.eval g = .func (.func gf) #[] lb) (hFg : F.fn gf) (eg : ∀ args w, (callFunc gf args).run P w = .ok (.enter gf args) w)
    {encs : α → Array Value} {Kp : World → World → Prop} {S Sp : List α → Prop} {N : Nat} {w0 : World} (hseq : SeqO F (n - 1) P gf lb encs Kp S Sp N w0)
    (hKt : ∀ {A B C : World}, Kp A B → Kp B C → Kp A C) (hKb : ∀ (W : World) (l : Nat) (o o' : Obj), W.heap[l]? = some o → o.isCells = false → Kp W (W.putObj l o')) (hb0 : Below w0.heap.size w0 w) (hps : ∀ x, (encs x).size = ps.size)
    (I : List α → World → Prop) (Ix : Code → List α → World → Prop) (hI : OwnFrom w.heap.size I) (hIx : ∀ c, OwnFrom w.heap.size (Ix c)) (h0 : I [] w) (Ax : α → Act → World → Prop) (hAx : ∀ x a', OwnFrom w.heap.size (fun (_ : Unit) W => Ax x a' W))
    (hassign : ∀ (l : Nat) (pre : List α) (x : α) (W : World) (K : Act → World → Prop), I pre W → (∀ a' W', KeepsFrom w.heap.size W W' → Kp W W' → I pre W' → Ax x a' W' → K a' W') →
      assign.wpIn (F.inRound l) (n - 1 - 1) P (Exit.then K (fun _ _ _ => False)) { tmps := (ps.zip (encs x)).foldl (fun t (p, v) => t.setIfInBounds p v) a.tmps, defers := [] } W)
    (hbody : ∀ (l : Nat) (pre : List α) (x : α) (a' : Act) (W : World), I pre W → Ax x a' W → pre.length < N → body.wpIn (F.inRound l) (n - 1 - 1) P (ownPostG w.heap.size Kp I Ix (pre ++ [x]) W) a' W)
    (hdone : ∀ (D : Nat) (xs : List α) (W : World), w.heap.size ≤ D → S xs → I xs W → W.heap[D]? = some (.deferred (some [])) → Q .normal { a with defers := { target := .collected D, args := #[] } :: a.defers } W)
    (hstop : ∀ (D : Nat) (c : Code) (pre : List α) (W : World), w.heap.size ≤ D → Sp pre → Ix c pre W → W.heap[D]? = some (.deferred (some [])) → c.wpIn F n P Q { a with defers := { target := .collected D, args := #[] } :: a.defers } W) :
    (Code.rangeFunc g ps assign body).wpIn F n P Q a w := by
  refine wpIn_rangeFunc ?_
  intro fn hfn
  rw [hro]
  obtain ⟨rec, hrec⟩ : ∃ rec : LoopState → Option Code → Loop, rec = fun st pe => { state := st, pending := pe, fn, tmps := a.tmps, params := ps, assign, body, defers := w.heap.size } := ⟨_, rfl⟩
  obtain ⟨W1, hW1⟩ : ∃ W1, (w.alloc (.deferred (some []))).alloc (.loop (rec .ready none)) = W1 := ⟨_, rfl⟩
  have hs1 : W1.heap.size = w.heap.size + 1 + 1 := by rw [← hW1]; simp
  have hL1 : W1.heap[w.heap.size + 1]? = some (.loop (rec .ready none)) := by
    rw [← hW1]; have := World.alloc_heap_new (w.alloc (.deferred (some []))) (.loop (rec .ready none)); rwa [World.size_alloc] at this
  have hK1 : W1.heap[w.heap.size]? = some (.deferred (some [])) := by
    rw [← hW1]; exact (Below.heap_alloc _ _ _ (by simp)).trans (World.alloc_heap_new w _)
  have hI1 : I [] W1 := by rw [← hW1]; exact hI.alloc _ (hI.alloc _ h0)
  have hb1 : Below w0.heap.size w0 W1 := by
    rw [← hW1]; exact hb0.trans ((((Below.refl _ w).alloc (Nat.le_refl _) _).alloc (by simp) _).mono hb0.size)
  refine ⟨w.heap.size + 1, [{ target := .collected w.heap.size, args := #[] }], W1, { target := .fn (.func gf) lb, args := #[.func (.yield (w.heap.size + 1)) #[] #[]] }, W1, gf,
    #[.func (.yield (w.heap.size + 1)) #[] #[]] ++ lb, W1, ?_, ?_, ?_, ?_, fun _ => h1, ?_⟩
  · rw [← hW1, hrec]; exact run_enterLoop_outer _ _ _ _ _
  · simp only [resolve, hg]
    simp [go_sem]
  · intro f' hf'; simp [Target.leads] at hf'; subst hf'; exact hFg
  · simp [invoke, go_sem, eg]
  · -- what lies of the two blocks of book-keeping abides
    have hkeep : ∀ {A B : World} {row : Option Nat} {k : Nat} {o : Obj}, k < W1.heap.size → A.grownBy B row → (∀ r, row = some r → W1.heap.size ≤ r ∧ ∃ o : Obj, A.heap[r]? = some o ∧ o.isCells = false) → A.heap[k]? = some o → B.heap[k]? = some o :=
      fun hk hg' hr ho => (hg'.block _ (Array.getElem?_eq_some_iff.1 ho).1 (fun e => by have := (hr _ e.symm).1; omega)).trans ho
    have hlow : ∀ {A : World} {row : Option Nat}, (∀ r, row = some r → W1.heap.size ≤ r ∧ ∃ o : Obj, A.heap[r]? = some o ∧ o.isCells = false) → (∀ r, row = some r → w.heap.size ≤ r ∧ ∃ o : Obj, A.heap[r]? = some o ∧ o.isCells = false) :=
      fun hr r e => ⟨by have := (hr r e).1; omega, (hr r e).2⟩
    refine (hseq (w.heap.size + 1)
      (fun pre W => I pre W ∧ W.heap[w.heap.size + 1]? = some (.loop (rec .ready none)) ∧ W.heap[w.heap.size]? = some (.deferred (some [])))
      (fun pre W => ∃ c, Ix c pre W ∧ W.heap[w.heap.size + 1]? = some (.loop (rec .done (some c))) ∧ W.heap[w.heap.size]? = some (.deferred (some [])))
      W1 hb1
      (fun s A B row hs hg' hr => ⟨hI s A B row hs.1 hg' (hlow hr), hkeep (by omega) hg' hr hs.2.1, hkeep (by omega) hg' hr hs.2.2⟩)
      (fun s A B row hs hg' hr => by
        obtain ⟨c, hc, hl, hk⟩ := hs
        exact ⟨c, hIx c s A B row hc hg' (hlow hr), hkeep (by omega) hg' hr hl, hkeep (by omega) hg' hr hk⟩)
      ?_ ⟨hI1, hL1, hK1⟩).mono ?_
    · rintro pre x W ⟨hi, hl, hk⟩ hlen
      have hy := run_yield (P := P) (args := encs x) hl (by rw [hrec]; exact hps x)
      rw [hrec] at hy
      refine ⟨fn, _, assign, body, hy, roundIn_of_wpIn hfn (hassign _ pre x W _ hi ?_)⟩
      clear hy
      intro a' Wa hkfa hkpa hia hax
      replace hl := hkfa.same _ _ (by omega) hl rfl
      replace hk := hkfa.same _ _ (Nat.le_refl _) hk rfl
      have hlt : w.heap.size + 1 < Wa.heap.size := (Array.getElem?_eq_some_iff.1 hl).1
      refine ⟨_, run_beginRound hl (by rw [hrec]), ?_⟩
      obtain ⟨Wb, hWb⟩ : ∃ Wb, Wa.putObj (w.heap.size + 1) (.loop { rec .ready none with state := .busy }) = Wb := ⟨_, rfl⟩
      have hl2 : Wb.heap[w.heap.size + 1]? = some (.loop { rec .ready none with state := .busy }) := by rw [← hWb]; exact World.putObj_heap_same hlt
      have hk2 : Wb.heap[w.heap.size]? = some (.deferred (some [])) := by rw [← hWb]; exact (World.putObj_heap_other (by omega)).trans hk
      have hw2 : Kp Wa Wb := by rw [← hWb]; exact hKb _ _ _ _ hl rfl
      have hf2 : KeepsFrom W1.heap.size Wa Wb := by rw [← hWb]; exact kf_put _ _ (by omega)
      have hi2 : I pre Wb := by rw [← hWb]; exact hI.putObj _ hia (by omega) hl rfl
      have hx2 : Ax x a' Wb := by rw [← hWb]; exact (hAx x a').putObj (s := ()) _ hax (by omega) hl rfl
      rw [hWb]
      refine wpIn_mono (hbody _ pre x a' _ hi2 hx2 hlen) ?_
      have fin : ∀ (jump : Option Code) (W3 : World), KeepsFrom w.heap.size Wb W3 →
          (Instr.endRound (w.heap.size + 1) jump).run P W3 = .ok (.bool jump.isNone) (W3.putObj (w.heap.size + 1) (.loop (rec (if jump.isNone then .ready else .done) jump))) ∧
          W3.heap[w.heap.size + 1]? = some (.loop { rec .ready none with state := .busy }) ∧
          (W3.putObj (w.heap.size + 1) (.loop (rec (if jump.isNone then .ready else .done) jump))).heap[w.heap.size + 1]? = some (.loop (rec (if jump.isNone then .ready else .done) jump)) ∧
          (W3.putObj (w.heap.size + 1) (.loop (rec (if jump.isNone then .ready else .done) jump))).heap[w.heap.size]? = some (.deferred (some [])) ∧
          KeepsFrom W1.heap.size W (W3.putObj (w.heap.size + 1) (.loop (rec (if jump.isNone then .ready else .done) jump))) := fun jump W3 hk3 => by
        have hl3 := hk3.same _ _ (by omega) hl2 rfl
        have := run_endRound (P := P) jump hl3
        rw [hrec] at this ⊢
        exact ⟨this, by rw [hrec] at hl3; exact hl3, World.putObj_heap_same (Array.getElem?_eq_some_iff.1 hl3).1, (World.putObj_heap_other (by omega)).trans (hk3.same _ _ (Nat.le_refl _) hk2 rfl),
          (((kf_mono hkfa (by omega)).trans hf2).trans (kf_mono hk3 (by omega))).trans (kf_put _ _ (by omega))⟩
      rintro e a3 W3 hp
      cases e with
      | normal =>
        obtain ⟨hk3, hkp3, hi3⟩ := hp
        obtain ⟨hr, hl3, hl4, hk4, hkf⟩ := fin none W3 hk3
        exact ⟨_, _, hr, .inl ⟨rfl, ⟨hI.putObj _ hi3 (by omega) hl3 rfl, hl4, hk4⟩, hKt hkpa (hKt (hKt hw2 hkp3) (hKb _ _ _ _ hl3 rfl)), hkf⟩⟩
      | ret =>
        obtain ⟨hk3, hi3⟩ := hp
        obtain ⟨hr, hl3, hl4, hk4, hkf⟩ := fin (some .ret) W3 hk3
        exact ⟨_, _, hr, .inr ⟨rfl, ⟨.ret, (hIx _).putObj _ hi3 (by omega) hl3 rfl, hl4, hk4⟩, hkf⟩⟩
      | exit id =>
        obtain ⟨hk3, hi3⟩ := hp
        obtain ⟨hr, hl3, hl4, hk4, hkf⟩ := fin (some (.exit id)) W3 hk3
        exact ⟨_, _, hr, .inr ⟨rfl, ⟨.exit id, (hIx _).putObj _ hi3 (by omega) hl3 rfl, hl4, hk4⟩, hkf⟩⟩
      | goto t =>
        obtain ⟨hk3, hi3⟩ := hp
        obtain ⟨hr, hl3, hl4, hk4, hkf⟩ := fin (some (.goto t)) W3 hk3
        exact ⟨_, _, hr, .inr ⟨rfl, ⟨.goto t, (hIx _).putObj _ hi3 (by omega) hl3 rfl, hl4, hk4⟩, hkf⟩⟩
      | panic ch => exact hp.elim
      | outgrown => exact hp.elim
    · rintro e W2 ⟨⟨v, rfl⟩, (⟨xs, hS, hi, hl, hk⟩ | ⟨pre, hSp, c, hi, hl, hk⟩)⟩
      · exact ⟨none, _, by have := run_endLoop (P := P) hl (by rw [hrec]; simp); rw [hrec] at this; exact this, hdone _ xs _ (Nat.le_refl _) hS (hI.putObj _ hi (by omega) hl rfl) ((World.putObj_heap_other (by omega)).trans hk)⟩
      · exact ⟨some c, _, by have := run_endLoop (P := P) hl (by rw [hrec]; simp); rw [hrec] at this; exact this, hstop _ c pre _ (Nat.le_refl _) hSp ((hIx c).putObj _ hi (by omega) hl rfl) ((World.putObj_heap_other (by omega)).trans hk)⟩
/-- All cells but two blocks lie as they lay. -/
def KpX (a b : Nat) (W W' : World) : Prop := ∀ k o, k ≠ a → k ≠ b → W.heap[k]? = some o → o.isCells = true → W'.heap[k]? = some o
theorem KpX.trans {a b : Nat} {A B C : World} (h : KpX a b A B) (k : KpX a b B C) : KpX a b A C := fun i o ha hb hi ho => k i o ha hb (h i o ha hb hi ho) ho
theorem KpX.put {a b : Nat} (W : World) (l : Nat) (o o' : Obj) (h : W.heap[l]? = some o) (ho : o.isCells = false) : KpX a b W (W.putObj l o') := fun k u _ _ hk hu =>
  (World.putObj_heap_other (fun e => by subst e; rw [h] at hk; cases hk; rw [ho] at hu; cases hu)).trans hk
theorem KpX.alloc {a b : Nat} (W : World) (o : Obj) : KpX a b W (W.alloc o) := fun k u _ _ hk _ => (Below.heap_alloc W o k (Array.getElem?_eq_some_iff.1 hk).1).trans hk
theorem KpX.cell {a b : Nat} {W W' : World} (h : KpX a b W W') {ad : Addr} {v : Value} (ha : ad.block ≠ a) (hb : ad.block ≠ b) (hc : W.cell? ad = some v) : W'.cell? ad = some v := by
  obtain ⟨o, ho, hco⟩ := cells_of_cell hc
  have h' := h _ _ ha hb ho hco
  unfold World.cell? at hc ⊢
  rw [h']; rw [ho] at hc; exact hc
theorem KpX.row {a b : Nat} {W W' : World} (h : KpX a b W W') {A : Option Addr} {l : List K2} (hr : KRow W A l) (hA : ∀ ad, A = some ad → ad.block ≠ a ∧ ad.block ≠ b) : KRow W' A l := fun i hi => by
  obtain ⟨ad, rfl, c0, c1⟩ := hr i hi
  obtain ⟨ha, hb⟩ := hA ad rfl
  exact ⟨ad, rfl, h.cell (by rw [add_block]; exact ha) (by rw [add_block]; exact hb) c0, h.cell (by rw [add_block]; exact ha) (by rw [add_block]; exact hb) c1⟩
/-- Places from the last one down to r. -/
def dn (n r : Nat) : List Nat := ((List.range n).drop r).reverse
theorem dn_start (n : Nat) : dn n n = [] := by simp [dn]
theorem dn_step {n r : Nat} (h : r < n) : dn n (r + 1) ++ [r] = dn n r := by
  unfold dn
  rw [List.drop_eq_getElem_cons (show r < (List.range n).length by simpa using h)]
  simp
theorem dn_len {n r : Nat} : (dn n r).length = n - r := by simp [dn]
theorem dn_map (m : List K2) (r : Nat) : (dn m.length r).map (atK m) = (m.drop r).reverse := by
  have hm : (List.range m.length).map (atK m) = m := by
    refine List.ext_getElem (by simp) fun i h1 h2 => ?_
    simp only [List.getElem_map, List.getElem_range]
    exact atK_get h2
  unfold dn
  rw [List.map_reverse, List.map_drop, hm]
theorem sl_Backward (A : Option Addr) (n c : Nat) (w : World) : Calls Try.prog 66 #[.slice A n c] w fun e w' => e = .returned (.func (.func 83) #[] #[(.pointer (some ⟨w.heap.size, 0, none⟩))]) ∧ w' = w.alloc (.cells #[.slice A n c] 68) := by
  go_enter Try.func66, Try.ntmps66
  go_wp2
  go_ret
  exact ⟨rfl, rfl⟩
abbrev encB (m : List K2) (i : Nat) : Array Value := #[.int .i64 (i : Int), (.agg #[.int .i64 ((atK m i)).c, .int .i64 ((atK m i)).i])]
set_option maxHeartbeats 4000000 in
theorem back_stops (F : Fence) (n : Nat) (hF : F.fn 83) (hro : F.round = none) (hn : 1 ≤ n) (B a b : Nat) (A : Option Addr) (m : List K2) (c : Nat) (w : World) (hm : m.length ≤ 1000000) (hB : w.heap[B]? = some (.cells #[.slice A m.length c] 68 (0, 0))) (hR : KRow w A m)
    (hBa : B ≠ a) (hBb : B ≠ b) (hA : ∀ ad, A = some ad → ad.block < w.heap.size ∧ ad.block ≠ a ∧ ad.block ≠ b) :
    SeqStopsK F n Try.prog 83 #[(.pointer (some ⟨B, 0, none⟩))] (encB m) (KpX a b) (fun xs => xs = dn m.length 0) (fun pre => ∃ r, pre = dn m.length r) m.length w := fun l J Jx W hW hJ hJx hY h0 => by
  have hB' : W.heap[B]? = some (.cells #[.slice A m.length c] 68 (0, 0)) := (hW.block B (Array.getElem?_eq_some_iff.1 hB).1).trans hB
  have hR' : KRow W A m := hR.below hW
  have cB := cell_one hB'
  have HY := Lib.hid hY
  have HA := Lib.hid hA
  have HB := Lib.hid hB'
  have HR := Lib.hid hR'
  clear hY hJ hJx hW hB hR hB' hR' hA
  (refine callsIn_of_wp Try.func83 rfl hF ?_ hro; simp only [Try.ntmps83, List.size_toArray, List.length_cons, List.length_nil, Nat.reduceAdd, Nat.reduceSub, Array.replicate_succ, Array.replicate_zero, List.push_toArray, List.append_toArray, List.nil_append, List.cons_append])
  gi_wp2
  gi_loopw [3] (fun v wr => ∃ r : Nat, v = .int .i64 ((r : Int) - 1) ∧ r ≤ m.length ∧ J (dn m.length r) wr ∧ wr.heap[B]? = some (.cells #[.slice A m.length c] 68 (0, 0)) ∧ KRow wr A m) (fun v wr => match v with | .int _ i => (i + 1).toNat | _ => 0)
  case atStart =>
    exact ⟨m.length, rfl, Nat.le_refl _, by rw [dn_start]; exact h0, HB.out, HR.out⟩
  case round =>
    obtain ⟨r, rfl, hr, hJ, hb, hrow⟩ := hrel
    have cb := cell_one hb
    cases r with
    | zero =>
      gi_wp2
      go_end0
      exact ⟨⟨_, rfl⟩, .inl ⟨_, rfl, hJ⟩⟩
    | succ r =>
      obtain ⟨ad, rfl, c0, c1⟩ := hrow r (by omega)
      obtain ⟨fn, tmps, assign, body, hy, hRd⟩ := HY.out _ r _ hJ (by rw [dn_len]; omega)
      dsimp only [encB] at hy
      have e1 : ((r + 1 : Nat) : Int) - 1 = (r : Int) := by omega
      rw [e1]
      have HBL := Lib.hid hb
      have HRW := Lib.hid hrow
      clear hb hrow hJ
      gi_wp2
      refine hRd.mono ?_
      rintro e W3 (⟨rfl, hJ3, hk3⟩ | ⟨rfl, hJx3⟩)
      · gi_wp2
        go_roundw
        case rel => exact ⟨r, rfl, by omega, by rw [← dn_step (by omega)]; exact hJ3, hk3 _ _ hBa hBb HBL.out rfl, hk3.row HRW.out (fun ad e => (HA.out ad e).2)⟩
        case measure => simp only []; omega
      · gi_wp2
        refine bodyPost_ret (results_none rfl _ _ _) rfl ?_
        exact ⟨⟨_, rfl⟩, .inr ⟨_, ⟨r, dn_step (by omega)⟩, hJx3⟩⟩
end Go.Proofs.Yteldbnelfeiifaa
