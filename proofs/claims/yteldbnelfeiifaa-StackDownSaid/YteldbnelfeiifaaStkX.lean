/- All keys from the topmost one on, walked. -/
import Derived.Test.YteldbnelfeiifaaStkW
namespace Go.Proofs.Yteldbnelfeiifaa
open Go.RowKit Go.Shelf Go.Proofs.YteldbnelfeiifaaW.PrintWords
set_option linter.unusedSimpArgs false
set_option linter.unusedVariables false
set_option maxRecDepth 1000000
attribute [local go_sem] Oper.semAt_some
theorem yield_round {n k l : Nat} {P : Program} {l2 : Nat} {args : Array Value} {W : World} {R : Ending → World → Prop} (h : YieldAt Fence.wide n P l args W R) : YieldAt (Fence.wide.inRound l2) k P l args W R := by
  obtain ⟨fn, tmps, assign, body, hy, hF, hc⟩ := h
  exact ⟨fn, tmps, assign, body, hy, hF, fun c cs _ => hc c cs (fun d hd => by cases hd)⟩
theorem turn_cells {A A' : World} {row : Option Nat} {k : Nat} {o : Obj} (hg : A.grownBy A' row) (hr : ∀ r, row = some r → ∃ o : Obj, A.heap[r]? = some o ∧ o.isCells = false) (h : A.heap[k]? = some o) (ho : o.isCells = true) : A'.heap[k]? = some o :=
  (hg.block k (Array.getElem?_eq_some_iff.1 h).1 (fun e => by obtain ⟨o', h1, h2⟩ := hr k e.symm; rw [h] at h1; cases h1; rw [ho] at h2; cases h2)).trans h
set_option maxHeartbeats 4000000 in
theorem down_stops (n : Nat) (hn : 3 ≤ n) (B a b : Nat) (A : Option Addr) (m : List K2) (c : Nat) (w : World) (hm : m.length ≤ 1000000) (hB : w.heap[B]? = some (.cells #[.slice A m.length c] 68 (0, 0))) (hR : KRow w A m)
    (ha : a < w.heap.size) (hb : b < w.heap.size) (hBa : B ≠ a) (hBb : B ≠ b) (hA : ∀ ad, A = some ad → ad.block < w.heap.size ∧ ad.block ≠ a ∧ ad.block ≠ b) :
    SeqO Fence.wide n Try.prog 65 #[(.pointer (some ⟨B, 0, none⟩))] (fun x : K2 => #[(.agg #[.int .i64 (x).c, .int .i64 (x).i])]) (KpX a b) (fun xs => xs = m.reverse) (fun pre => pre <+: m.reverse) m.length w := fun l J Jx W hW hJ hJx hY h0 => by
  have hB' : W.heap[B]? = some (.cells #[.slice A m.length c] 68 (0, 0)) := (hW.block B (Array.getElem?_eq_some_iff.1 hB).1).trans hB
  have hR' : KRow W A m := hR.below hW
  have hzW := hW.size
  have hBl := (Array.getElem?_eq_some_iff.1 hB').1
  have cB := cell_one hB'
  have HY := Lib.hid hY
  have HA := Lib.hid hA
  have HB := Lib.hid hB'
  have HR := Lib.hid hR'
  have HJ := Lib.hid hJ
  have HX := Lib.hid hJx
  clear hY hJ hJx hW hB hR hB' hR' hA
  refine callsIn_of_wp_marks Try.func65 rfl trivial ?_ rfl
  simp only [Try.ntmps65, List.size_toArray, List.length_cons, List.length_nil, Nat.reduceAdd, Nat.reduceSub, Array.replicate_succ, Array.replicate_zero, List.push_toArray, List.append_toArray, List.nil_append, List.cons_append]
  gi_wp2_with (refine ⟨trivial, fun _ => by omega, ?_⟩; refine (callsIn_wide.2 (sl_Backward _ _ _ _)).mono ?_; rintro e w' ⟨rfl, rfl⟩)
  have bx0 : ((W.alloc (.cells #[.func (.yield l) #[] #[]] 61)).alloc (.cells #[.slice A m.length c] 68)).heap[W.heap.size]? = some (.cells #[.func (.yield l) #[] #[]] 61 (0, 0)) := blk_alloc (blk_new _ _) _
  have bx1 : ((W.alloc (.cells #[.func (.yield l) #[] #[]] 61)).alloc (.cells #[.slice A m.length c] 68)).heap[W.heap.size + 1]? = some (.cells #[.slice A m.length c] 68 (0, 0)) := by
    have := blk_new (W.alloc (.cells #[.func (.yield l) #[] #[]] 61)) (.cells #[.slice A m.length c] 68)
    rwa [World.size_alloc] at this
  have hb2 : Below W.heap.size W ((W.alloc (.cells #[.func (.yield l) #[] #[]] 61)).alloc (.cells #[.slice A m.length c] 68)) := by (repeat (first | (with_reducible exact Below.refl _ _) | ((with_reducible refine Below.alloc ?_ ?hB _); (case hB => (first | omega | (simp; done) | (simp; omega)))) | ((with_reducible refine Below.setCell ?_ ?hB _); (case hB => (first | omega | (simp; done) | (simp; omega)))) | (with_reducible refine Below.drew ?_) | ((with_reducible refine below_ext_of ?_ ?hB); (case hB => (first | omega | (simp; done) | (simp; omega)))) | ((with_reducible refine Below.trans ?_ (Below.mono (by assumption) ?hB)); (case hB => (first | omega | (simp; done) | (simp; omega))))))
  have hJ2 : J [] ((W.alloc (.cells #[.func (.yield l) #[] #[]] 61)).alloc (.cells #[.slice A m.length c] 68)) := HJ.out.alloc _ (HJ.out.alloc _ h0)
  have hz2 : ((W.alloc (.cells #[.func (.yield l) #[] #[]] 61)).alloc (.cells #[.slice A m.length c] 68)).heap.size = W.heap.size + 1 + 1 := by simp
  have hrow2 := HR.out.below hb2
  generalize (W.alloc (.cells #[.func (.yield l) #[] #[]] 61)).alloc (.cells #[.slice A m.length c] 68) = W2 at *
  have hOJ : OwnFrom W2.heap.size (fun (is : List Nat) W' => J (is.map (atK m)) W' ∧ W'.heap[W.heap.size]? = some (.cells #[.func (.yield l) #[] #[]] 61 (0, 0))) := fun s A A' row h hg hr =>
    ⟨HJ.out _ A A' row h.1 hg (fun r e => ⟨by have := (hr r e).1; omega, (hr r e).2⟩), turn_cells hg (fun r e => (hr r e).2) h.2 rfl⟩
  refine wpIn_rangeFunc_ownH rfl (by omega) (gf := 83) (lb := #[(.pointer (some ⟨W.heap.size + 1, 0, none⟩))]) rfl trivial (enters_of Try.func83 (by kernel_rfl) rfl)
    (back_stops Fence.wide (n - 1) trivial rfl (by omega) (W.heap.size + 1) a b A m c W2 hm bx1 hrow2 (by omega) (by omega) (fun ad e => ⟨by have := (HA.out ad e).1; omega, (HA.out ad e).2⟩))
    KpX.trans (fun W l o o' _ h ho _ => KpX.put W l o o' h ho) (Below.refl _ _) (fun _ => rfl)
    (fun (is : List Nat) W' => J (is.map (atK m)) W' ∧ W'.heap[W.heap.size]? = some (.cells #[.func (.yield l) #[] #[]] 61 (0, 0)))
    (fun co is W' => co = .ret ∧ Jx (is.map (atK m)) W') hOJ
    (fun co s A A' row h hg hr => ⟨h.1, HX.out _ A A' row h.2 hg (fun r e => ⟨by have := (hr r e).1; omega, (hr r e).2⟩)⟩)
    ⟨hJ2, bx0⟩
    (fun x a' W' => ∃ Bx, W'.heap[Bx]? = some (.cells #[.int .i64 (atK m x).c, .int .i64 (atK m x).i] 62 (0, 0)) ∧ a' = { tmps := #[.func (.yield l) #[] #[], (.pointer (some ⟨B, 0, none⟩)), (.pointer (some ⟨W.heap.size, 0, none⟩)), undef, (.pointer (some ⟨Bx, 0, none⟩)), .slice A m.length c, .func (.func 83) #[] #[(.pointer (some ⟨W.heap.size + 1, 0, none⟩))], .int .i64 (x : Int), (.agg #[.int .i64 ((atK m x)).c, .int .i64 ((atK m x)).i]), undef, undef, undef, undef], defers := [] })
    (fun x a' _ A A' row h hg hr => by obtain ⟨Bx, h1, h2⟩ := h; exact ⟨Bx, turn_cells hg (fun r e => (hr r e).2) h1 rfl, h2⟩)
    ?assign ?body ?done ?stop
  case assign =>
    rintro l2 pre x W' K ⟨hJ', hbox⟩ hK
    gi_wp2
    exact hK _ _ ((KeepsOthers.alloc _ _).from _) (KpX.alloc _ _) ⟨HJ.out.alloc _ hJ', blk_alloc hbox _⟩ ⟨W'.heap.size, blk_new _ _, rfl⟩
  case body =>
    rintro l2 pre x a' W' hl2 hr2 ⟨hJ', hbox⟩ ⟨Bx, hbx, rfl⟩ hlt
    have cY := cell_one hbox
    have cK0 : W'.cell? ⟨Bx, 0, none⟩ = some (.int .i64 (atK m x).c) := by simp [World.cell?, hbx]
    have cK1 : W'.cell? ⟨Bx, 1, none⟩ = some (.int .i64 (atK m x).i) := by simp [World.cell?, hbx]
    obtain ⟨fn, tmps, assign, body, hy, hRd⟩ := yield_round (l2 := l2) (k := n - 1 - 1 - 1) (HY.out _ (atK m x) W' hJ' (by rw [List.length_map]; exact hlt))
    have HBX := Lib.hid hbox
    clear hbox hbx hJ' hr2
    gi_wp2
    refine ⟨fun _ => by omega, ?_⟩
    refine hRd.mono ?_
    rintro e W3 (⟨rfl, hJ3, hk3, hf3⟩ | ⟨rfl, hJx3, hf3⟩)
    · gi_wp2
      exact ⟨kf_mono hf3 (by omega), hk3, by rw [List.map_append]; exact hJ3, hk3 _ _ (by omega) (by omega) HBX.out rfl⟩
    · gi_wp2
      exact ⟨kf_mono hf3 (by omega), rfl, by rw [List.map_append]; exact hJx3⟩
  case done =>
    rintro D xs W' hD rfl ⟨hJ', hbox⟩ hK
    rw [dn_map, List.drop_zero] at hJ'
    have hJ4 := HJ.out.putObj (.deferred none) hJ' (show W.heap.size ≤ D from by omega) hK rfl
    clear hbox
    gi_wp2
    refine ⟨by simp, .inl ⟨_, _, rfl, run_takeDeferred hK, ?_⟩⟩
    exact ⟨_, results_none rfl _ _ _, ⟨_, rfl⟩, .inl ⟨_, rfl, hJ4⟩⟩
  case stop =>
    rintro D co pre W' hD ⟨r, rfl⟩ ⟨rfl, hX⟩ hK
    rw [dn_map] at hX
    have hX4 := HX.out.putObj (.deferred none) hX (show W.heap.size ≤ D from by omega) hK rfl
    gi_wp2
    refine ⟨by simp, .inl ⟨_, _, rfl, run_takeDeferred hK, ?_⟩⟩
    exact ⟨_, results_none rfl _ _ _, ⟨_, rfl⟩, .inr ⟨_, List.reverse_prefix.2 (List.drop_suffix _ _), hX4⟩⟩
end Go.Proofs.Yteldbnelfeiifaa
