/- A key more on a stack; a new stack, walked. -/
import Derived.Test.YteldbnelfeiifaaStkD
import Derived.Deep.RegionLaw
import Derived.Maps.AppendAt
namespace Go.Proofs.Yteldbnelfeiifaa
open Go.RowKit Go.Proofs.YteldbnelfeiifaaW.PrintWords
set_option linter.unusedSimpArgs false
set_option linter.unusedVariables false
set_option maxRecDepth 1000000
attribute [local go_sem high] eqK eqKS
theorem heap_set_ne (w : World) (a : Addr) (u : Value) (k : Nat) (h : k ≠ a.block) : (w.setCell a u).heap[k]? = w.heap[k]? := by
  simp only [World.setCell, Array.getElem?_modify]
  rw [if_neg (fun e => h e.symm)]
def StkP (w : World) (p : Nat) (l : List K2) (w' : World) : Prop := Stk w' p l ∧ Below p w w' ∧ Keeps p w w'
theorem StkP.of_below {w w1 : World} {p : Nat} {l : List K2} (h : Stk w p l) (hb : Below w.heap.size w w1) : StkP w p l w1 :=
  ⟨h.below hb, hb.mono (Nat.le_of_lt h.lt), Keeps.below hb h.lt⟩
theorem Stk.block3 {W w3 : World} {p : Nat} {v : Value} {l : List K2} (hp : W.heap[p]? = some (.cells #[v] 102 (0, 0))) (hv : OwnK W (p + 1) 62 v l) (hg : W.grownBy w3 v.ownBlock) : w3.heap[p]? = some (.cells #[v] 102 (0, 0)) :=
  (hg.block p (blk_lt hp) (fun e => by have := own_base hv p e.symm; omega)).trans hp
theorem Stk.update {W w3 : World} {p : Nat} {v v1 : Value} {l l' : List K2} (hp : W.heap[p]? = some (.cells #[v] 102 (0, 0))) (hv : OwnK W (p + 1) 62 v l) (hg : W.grownBy w3 v.ownBlock) (ho : OwnK w3 (p + 1) 62 v1 l')
    (hat : v1.ownBlock = v.ownBlock ∨ ∃ b, v1.ownBlock = some b ∧ W.heap.size ≤ b) (hnd : l'.Nodup) : StkP W p l' (w3.setCell ⟨p, 0, none⟩ v1) := by
  have hlt := blk_lt hp
  have hvp : some p ≠ v.ownBlock := fun e => by have := own_base hv p e.symm; omega
  have h1p : some p ≠ v1.ownBlock := fun e => by have := own_base ho p e.symm; omega
  have h3 : w3.heap[p]? = some (.cells #[v] 102 (0, 0)) := (hg.block p hlt hvp).trans hp
  have h4 : (w3.setCell ⟨p, 0, none⟩ v1).heap[p]? = some (.cells #[v1] 102 (0, 0)) := blk_set h3 0 v1
  refine ⟨⟨?_, hnd, v1, h4, own_setCell ho h1p v1⟩, ?_, ?_, fun k hk hf => ?_⟩
  · rw [World.size_setCell]; exact Nat.lt_of_lt_of_le hlt hg.size
  · refine Below.setCell ?_ (Nat.le_refl p) _
    exact (Below.refl p W).grown hg (Nat.le_of_lt hlt) (fun k hk => by have := own_base hv k hk; omega)
  · rw [World.size_setCell]; exact hg.size
  · have hne := hf.2 v _ _ hp
    refine ⟨(heap_set_ne w3 _ _ k hf.1).trans (hg.block k hk (fun e => hne e.symm)), hf.1, fun u t f hu => ?_⟩
    rw [h4] at hu
    injection hu with hu
    injection hu with hu
    have : u = v1 := by simpa using hu.symm
    subst this
    rcases hat with hat | ⟨b, hat, hb⟩
    · rw [hat]; exact hne
    · rw [hat]; intro e; injection e with e; omega
theorem StkP.trans {w w1 w2 : World} {p : Nat} {l l' : List K2} (h : StkP w p l w1) (k : StkP w1 p l' w2) : StkP w p l' w2 := ⟨k.1, h.2.1.trans k.2.1, h.2.2.trans k.2.2⟩
theorem addL_out {l : List K2} {k : K2} (h : k ∉ l) : addL l k = l ++ [k] := by unfold addL; rw [if_neg h]
theorem addL_nodup {l : List K2} {k : K2} (h : l.Nodup) : (addL l k).Nodup := by
  unfold addL; split
  · exact h
  · rw [List.nodup_append]; exact ⟨h, by simp, by simp; intro a ha hk; exact ‹k ∉ l› (by rw [← hk]; exact ha)⟩
theorem step_append_key {P : Program} {ops : Array Oper} {o : Oper} {a : Act} {W : World} {K : Act → World → Prop} {Q : Exit → Act → World → Prop} {E : Prop}
    (base : Nat) (hgd : o.guard = none) (s x : Operand) (t e : TypeId) (ho : o.op = .call { callee := .builtin .append, args := #[s, x], argTypes := #[t, t] })
    (ht : P.underlying t = some (.slice e)) (hinfo : (P.info? e).map (fun i => (i.zero, i.size, i.bytes)) = some (some (.agg #[.int .i64 (0), .int .i64 (0)]), 2, 16))
    (v : Value) (l : List K2) (k : K2) (b m : Nat) (hs : a.eval s = v) (hx : a.eval x = .slice (some ⟨b, 0, none⟩) 1 m) (h0 : W.cell? ⟨b, 0, none⟩ = some (.int .i64 k.c)) (h1 : W.cell? ⟨b, 1, none⟩ = some (.int .i64 k.i)) (HO : OwnK W base e v l) (hbase : base ≤ W.heap.size) (hl : l.length ≤ 100000)
    (h : ∀ v1 w1, OwnK w1 base e v1 (l ++ [k]) → W.grownBy w1 v.ownBlock → (v1.ownBlock = v.ownBlock ∨ ∃ b, v1.ownBlock = some b ∧ W.heap.size ≤ b) → K (a.put o.dst v1) w1) :
    if Region.wanted o (yielded ops a.tmps) = true then Oper.wp P o a W K Q else E := by
  have hw : Region.wanted o (yielded ops a.tmps) = true := by simp [Region.wanted, hgd]
  rw [if_pos hw]
  obtain ⟨i0, hi, hzz⟩ := Option.map_eq_some_iff.1 hinfo
  simp only [Prod.mk.injEq] at hzz
  obtain ⟨hz0, hz1, hz2⟩ := hzz
  obtain ⟨v', w', hr, h2, h3, h4, h5⟩ := run_append_own_at (P := P) W base t o.type e i0 (.agg #[.int .i64 (0), .int .i64 (0)]) 2 16 ht hi hz0 hz1 hz2 rfl (by omega) v l.length (flatK l) HO ⟨b, 0, none⟩ 1 m [.int .i64 k.c, .int .i64 k.i] rfl
    (fun j u hj => by
      rw [add_plain]
      match j, hj with
      | 0, hj => simp at hj; rw [← hj]; exact h0
      | 1, hj => simp at hj; rw [← hj]; exact h1
      | j + 2, hj => simp at hj) (by simp [Value.oneCell']) (by simp only [maxLen]; omega) (by omega) hbase
  unfold Oper.wp execOp
  simp only [ho, resolve, invoke, builtin, Sem.run_bind, Sem.run_pure, Result.andThen_ok, List.map_toArray, List.map_cons, List.map_nil, hs, hx, hr]
  refine h v' w' (OwnK.snoc h2) h3 ?_
  rcases h5 with h5 | h5
  · exact .inl h5
  · exact .inr ⟨_, h5, by simp⟩
theorem step_stk_append {ops : Array Oper} {o : Oper} {a : Act} {w0 W : World} {K : Act → World → Prop} {Q : Exit → Act → World → Prop} {E : Prop}
    (hgd : o.guard = none) (s x : Operand) (ho : o.op = .call { callee := .builtin .append, args := #[s, x], argTypes := #[68, 68] })
    (p : Nat) (A : Option Addr) (c : Nat) (l : List K2) (k : K2) (b m : Nat) (hs : a.eval s = .slice A l.length c) (hx : a.eval x = .slice (some ⟨b, 0, none⟩) 1 m) (h0 : W.cell? ⟨b, 0, none⟩ = some (.int .i64 k.c)) (h1 : W.cell? ⟨b, 1, none⟩ = some (.int .i64 k.i))
    (hp : w0.heap[p]? = some (.cells #[.slice A l.length c] 102 (0, 0))) (HO : OwnK w0 (p + 1) 62 (.slice A l.length c) l) (HB : Below w0.heap.size w0 W) (hl : l.length ≤ 100000) (hk : (l ++ [k]).Nodup) (hS : Stk w0 p l)
    (h : ∀ A1 c1 w1, w1.cell? ⟨p, 0, none⟩ = some (.slice A l.length c) → w1.frozen? ⟨p, 0, none⟩ = false → StkP w0 p (l ++ [k]) (w1.setCell ⟨p, 0, none⟩ (.slice A1 (l.length + 1) c1)) → K (a.put o.dst (.slice A1 (l.length + 1) c1)) w1) :
    if Region.wanted o (yielded ops a.tmps) = true then Oper.wp Try.prog o a W K Q else E := by
  have hlt := blk_lt hp
  have hpW := (HB.block p hlt).trans hp
  refine step_append_key (p + 1) hgd s x 68 62 ho Try.underlying68 info_s _ l k b m hs hx h0 h1 (HO.below HB) (by have := HB.size; omega) hl fun v1 w1 hown hg hat => ?_
  have h3 := Stk.block3 hpW (HO.below HB) hg
  obtain ⟨A1, c1, hv, hkr⟩ := hown.kr
  rw [List.length_append, List.length_singleton] at hv
  subst hv
  exact h A1 c1 w1 (cell_one h3) (blk_frozen h3 0) ((StkP.of_below hS HB).trans (Stk.update hpW (HO.below HB) hg hown hat hk))
def AddSP (w : World) (p : Nat) (l : List K2) (k : K2) (e : Ending) (w' : World) : Prop := e = .returned (.bool (decide (k ∉ l))) ∧ StkP w p (addL l k) w'
theorem stk_Add (p : Nat) (l : List K2) (k : K2) (w : World) (hl : l.length ≤ 10000) (h : Stk w p l) : Calls Try.prog 32 #[(.pointer (some ⟨p, 0, none⟩)), (.agg #[.int .i64 (k).c, .int .i64 (k).i])] w (AddSP w p l k) := by
  have hlt := h.lt
  have cA := fun w (h : Stk w p l) => stk_At p l k w (by omega) h
  obtain ⟨r, hr⟩ : ∃ r, atP l k = r := ⟨_, rfl⟩
  rw [hr] at cA
  have hS := fun w' (hb : Below w.heap.size w w') => Stk.below h hb
  by_cases hk : k ∈ l
  · have hp0 : 0 ≤ r := by rcases Int.lt_or_le r 0 with h0 | h0; exact absurd hk (atP_neg.1 (by rw [hr]; exact h0)); exact h0
    have HK := Lib.hid (show decide (k ∉ l) = false ∧ addL l k = l from ⟨decide_eq_false (not_not_intro hk), addL_in hk⟩)
    have H := Lib.hid h
    clear hr hk h
    go_enter Try.func32, Try.ntmps32
    go_wp2_with (first | (go_at_call 36; (with_reducible refine (cA _ (hS _ (by (repeat (first | (with_reducible exact Below.refl _ _) | ((with_reducible refine Below.alloc ?_ ?hB _); (case hB => (first | omega | (simp; done) | (simp; omega)))) | ((with_reducible refine Below.setCell ?_ ?hB _); (case hB => (first | omega | (simp; done) | (simp; omega)))) | (with_reducible refine Below.drew ?_) | ((with_reducible refine below_ext_of ?_ ?hB); (case hB => (first | omega | (simp; done) | (simp; omega)))) | ((with_reducible refine Below.trans ?_ (Below.mono (by assumption) ?hB)); (case hB => (first | omega | (simp; done) | (simp; omega))))))))).mono ?_); rintro e w1 ⟨rfl, hb1⟩; obtain ⟨hc1, hf1⟩ := bcell hb1; have hz1 := hb1.size; (try simp only [World.size_alloc, World.size_setCell, World.size_drew] at hz1)))
    go_ret
    unfold AddSP
    rw [HK.out.1, HK.out.2]
    exact ⟨rfl, StkP.of_below H.out (by (repeat (first | (with_reducible exact Below.refl _ _) | ((with_reducible refine Below.alloc ?_ ?hB _); (case hB => (first | omega | (simp; done) | (simp; omega)))) | ((with_reducible refine Below.setCell ?_ ?hB _); (case hB => (first | omega | (simp; done) | (simp; omega)))) | (with_reducible refine Below.drew ?_) | ((with_reducible refine below_ext_of ?_ ?hB); (case hB => (first | omega | (simp; done) | (simp; omega)))) | ((with_reducible refine Below.trans ?_ (Below.mono (by assumption) ?hB)); (case hB => (first | omega | (simp; done) | (simp; omega)))))))⟩
  · have hp0 : r < 0 := by rw [← hr]; exact atP_neg.2 hk
    have HK := Lib.hid (show decide (k ∉ l) = true ∧ addL l k = l ++ [k] from ⟨decide_eq_true hk, addL_out hk⟩)
    have HN := Lib.hid (show (l ++ [k]).Nodup from by have := addL_nodup (k := k) h.nodup; rwa [addL_out hk] at this)
    obtain ⟨A, c, h1, h2, h3⟩ := h.open_
    have hc := cell_one h1
    have H := Lib.hid h
    have H1 := Lib.hid h1
    have H2 := Lib.hid h2
    clear hr hk h h1 h2 h3
    go_enter Try.func32, Try.ntmps32
    go_wp2_with (first | (go_at_call 36; (with_reducible refine (cA _ (hS _ (by (repeat (first | (with_reducible exact Below.refl _ _) | ((with_reducible refine Below.alloc ?_ ?hB _); (case hB => (first | omega | (simp; done) | (simp; omega)))) | ((with_reducible refine Below.setCell ?_ ?hB _); (case hB => (first | omega | (simp; done) | (simp; omega)))) | (with_reducible refine Below.drew ?_) | ((with_reducible refine below_ext_of ?_ ?hB); (case hB => (first | omega | (simp; done) | (simp; omega)))) | ((with_reducible refine Below.trans ?_ (Below.mono (by assumption) ?hB)); (case hB => (first | omega | (simp; done) | (simp; omega))))))))).mono ?_); rintro e w1 ⟨rfl, hb1⟩; obtain ⟨hc1, hf1⟩ := bcell hb1; have hz1 := hb1.size; (try simp only [World.size_alloc, World.size_setCell, World.size_drew] at hz1)))

    have hp1 : p < w1.heap.size := by omega
    have hp2 : w.heap.size < w1.heap.size := by omega
    go_region_law (refine step_stk_append rfl (.tmp 13) (.tmp 15) rfl p A c l k w1.heap.size 1 (by simp [Act.eval, Act.put]) (by simp [Act.eval, Act.put]) ?_ ?_ H1.out H2.out ?_ ?_ HN.out H.out ?_; (focus (simp [go_sem, ↓IntWalk.iteOmega, *]; done)); (focus (simp [go_sem, ↓IntWalk.iteOmega, *]; done)); (focus ((repeat (first | (with_reducible exact Below.refl _ _) | ((with_reducible refine Below.alloc ?_ ?hB _); (case hB => (first | omega | (simp; done) | (simp; omega)))) | ((with_reducible refine Below.setCell ?_ ?hB _); (case hB => (first | omega | (simp; done) | (simp; omega)))) | (with_reducible refine Below.drew ?_) | ((with_reducible refine below_ext_of ?_ ?hB); (case hB => (first | omega | (simp; done) | (simp; omega)))) | ((with_reducible refine Below.trans ?_ (Below.mono (by assumption) ?hB)); (case hB => (first | omega | (simp; done) | (simp; omega)))))); done)); (focus omega); intro A3 c3 w3 cp3 fp3 hS3)
    all_goals
      have hS3 := Lib.hid hS3
      go_wp2
      go_ret
      unfold AddSP
      rw [HK.out.1, HK.out.2]
      exact ⟨rfl, hS3.out⟩
end Go.Proofs.Yteldbnelfeiifaa
