/- A client's pool of buffers, walked. -/
import Derived.Test.YtbkhcdmmnlkhdaaGreatCliA
import Derived.Maps.RangeWalk
namespace Go.Proofs.YtbkhcdmmnlkhdaaGreat
open Go.RowKit Go.Maps Go.Proofs.YtbkhcdmmnlkhdaaGreatW.PrintWords
set_option linter.unusedSimpArgs false
set_option linter.unusedVariables false
set_option maxRecDepth 1000000
/-- A pointer to a block, or none. -/
def encP : Option Nat → Value
  | some b => .pointer (some ⟨b, 0, none⟩)
  | none => .pointer none
def datP : Option Nat → DataW Unit
  | some b => .lit (.int .i64 b)
  | none => .nil
theorem encP_inj : ∀ x y, encP x = encP y → x = y := by
  intro x y h
  cases x <;> cases y <;> simp [encP] at h <;> simp [h]
noncomputable abbrev elemP : Value → Option (DataW Unit × List MemPlace) := rdr encP datP
theorem elemP_mk (b : Nat) : elemP (.pointer (some ⟨b, 0, none⟩)) = some (.lit (.int .i64 b), []) := rdr_mk encP_inj (some b)
theorem elemP_inv {c : Option Nat} {b : Nat} {ps : List MemPlace} (h : elemP (encP c) = some (.lit (.int .i64 b), ps)) : c = some b := by
  rw [show elemP (encP c) = some (datP c, []) from rdr_mk encP_inj c] at h
  injection h with h
  injection h with h _
  cases c with
  | none => cases h
  | some x =>
    injection h with h
    injection h with _ h
    have := Int.ofNat.inj h
    rw [this]
/-- A buffer: its block, its name, whether it has one, its image, how often it is held. -/
structure Bf where
  b : Nat
  id : Int
  named : Bool
  m : Option Addr
  held : Int
def Bf.obj (f : Bf) : Obj := .cells #[.int .i64 f.id, .bool f.named, .pointer f.m, .int .i64 f.held] 160 (0, 0)
def lookB : List (Int × Bf) → Int → Option Bf
  | [], _ => none
  | e :: l, x => if e.1 = x then some e.2 else lookB l x
theorem lookB_mem {l : List (Int × Bf)} {x : Int} {f : Bf} (h : lookB l x = some f) : (x, f) ∈ l := by
  induction l with
  | nil => cases h
  | cons e l ih =>
    simp only [lookB] at h
    split at h
    · rename_i he
      injection h with h
      subst h; subst he
      exact List.mem_cons_self ..
    · exact List.mem_cons_of_mem _ (ih h)
theorem lookB_of {l : List (Int × Bf)} {e : Int × Bf} (hnd : (l.map (·.1)).Nodup) (h : e ∈ l) : lookB l e.1 = some e.2 := by
  induction l with
  | nil => cases h
  | cons y l ih =>
    simp only [lookB]
    rcases List.mem_cons.1 h with rfl | h
    · rw [if_pos rfl]
    · rw [List.map_cons, List.nodup_cons] at hnd
      rw [if_neg (fun he => hnd.1 (by rw [he]; exact List.mem_map_of_mem h)), ih hnd.2 h]
structure PolL (D : DataW Unit) (l : List (Int × Bf)) : Prop where
  at_ : ∀ x f, lookB l x = some f → ∀ z, D.atKey (.int .i64 x) z = .lit (.int .i64 f.b)
  out : ∀ x, lookB l x = none → Maps.has D (.int .i64 x) = false
  in_ : ∀ x, Maps.has D (.int .i64 x) = (lookB l x).isSome
/-- A pool at block p. -/
structure PoolI (w : World) (p pm n : Nat) (next : Int) (l : List (Int × Bf)) : Prop where
  blk : w.heap[p]? = some (.cells #[.int .i64 next, .map (some pm)] 133 (0, 0))
  own : ∃ D : DataW Unit, w.ownsMap Tryz.prog 3 elemP pm n D ∧ PolL D l
  bufs : ∀ e ∈ l, w.heap[e.2.b]? = some e.2.obj
  keys : (l.map (·.1)).Nodup
  low : ∀ e ∈ l, e.1 < next
  names : ∀ e ∈ l, ∀ e' ∈ l, e.2.named = true → e'.2.named = true → e.2.id = e'.2.id → e = e'
theorem PoolI.below {w w1 : World} {p pm n : Nat} {next : Int} {l : List (Int × Bf)} (h : PoolI w p pm n next l) (hb : Below w.heap.size w w1) : PoolI w1 p pm n next l := by
  obtain ⟨D, hown, hL⟩ := h.own
  exact ⟨(hb.block p (blk_lt h.blk)).trans h.blk, ⟨D, hown.kept (row := none) (grown_below hb _) (by simp), hL⟩, fun e he => (hb.block _ (blk_lt (h.bufs e he))).trans (h.bufs e he), h.keys, h.low, h.names⟩
theorem pool_New (w : World) : Calls Tryz.prog 28 #[] w fun e w' => e = .returned (.pointer (some ⟨w.heap.size + 1, 0, none⟩)) ∧ PoolI w' (w.heap.size + 1) w.heap.size 0 0 [] ∧ Below w.heap.size w w' := by
  have hmm := @run_makeMap Tryz.prog
  go_enter Tryz.func28, Tryz.ntmps28
  go_wp2
  go_ret
  refine ⟨rfl, ⟨?_, ⟨.map [], ?_, ⟨fun x f h => (by cases h), fun x _ => rfl, fun x => rfl⟩⟩, fun e he => (by cases he), List.nodup_nil, fun e he => (by cases he), fun e he => (by cases he)⟩, by (repeat (first | (with_reducible exact Below.refl _ _) | ((with_reducible refine Below.alloc ?_ ?hB _); (case hB => (first | omega | (simp; done) | (simp; omega)))) | ((with_reducible refine Below.setCell ?_ ?hB _); (case hB => (first | omega | (simp; done) | (simp; omega)))) | (with_reducible refine Below.drew ?_) | ((with_reducible refine below_ext_of ?_ ?hB); (case hB => (first | omega | (simp; done) | (simp; omega)))) | ((with_reducible refine Below.trans ?_ (Below.mono (by assumption) ?hB)); (case hB => (first | omega | (simp; done) | (simp; omega))))))⟩
  · have := blk_new (w.alloc (.map #[] 0)) (.cells #[.int .i64 0, .map (some w.heap.size)] 133); rwa [World.size_alloc] at this
  · exact (World.ownsMap_made w Tryz.prog 3 elemP).alloc _
/-- The number of a name, and the error. -/
def findP : List (Int × Bf) → Int → Int × Int
  | [], _ => (-1, 5)
  | e :: l, id => if e.2.named = true ∧ e.2.id = id then (e.1, 0) else findP l id
theorem findP_some {l : List (Int × Bf)} {id : Int} {e : Int × Bf} (hn : ∀ e ∈ l, ∀ e' ∈ l, e.2.named = true → e'.2.named = true → e.2.id = e'.2.id → e = e') (he : e ∈ l) (h1 : e.2.named = true) (h2 : e.2.id = id) : findP l id = (e.1, 0) := by
  induction l with
  | nil => cases he
  | cons y l ih =>
    simp only [findP]
    split
    · rename_i hy
      have := hn y (List.mem_cons_self ..) e he hy.1 h1 (hy.2.trans h2.symm)
      rw [this]
    · rename_i hy
      rcases List.mem_cons.1 he with rfl | he
      · exact absurd ⟨h1, h2⟩ hy
      · exact ih (fun a ha b hb => hn a (List.mem_cons_of_mem _ ha) b (List.mem_cons_of_mem _ hb)) he
theorem findP_none {l : List (Int × Bf)} {id : Int} (h : ∀ e ∈ l, ¬ (e.2.named = true ∧ e.2.id = id)) : findP l id = (-1, 5) := by
  induction l with
  | nil => rfl
  | cons y l ih =>
    simp only [findP]
    rw [if_neg (h y (List.mem_cons_self ..))]
    exact ih (fun e he => h e (List.mem_cons_of_mem _ he))
theorem same_ne {x y : Int} (h : x ≠ y) : Lit.sameKey (.int .i64 x) (.int .i64 y) = false := by
  simp [Lit.sameKey, h]
set_option maxHeartbeats 1000000 in
theorem pool_Find (p pm n : Nat) (next : Int) (l : List (Int × Bf)) (id : Int) (w : World) (h : PoolI w p pm n next l) : Calls Tryz.prog 87 #[(.pointer (some ⟨p, 0, none⟩)), .int .i64 id] w fun e w' => e = .returned (.tuple #[.int .i64 (findP l id).1, .int .i64 (findP l id).2]) ∧ Below w.heap.size w w' := by
  obtain ⟨D, hown, hL⟩ := h.own
  have H := Lib.hid h
  have HL := Lib.hid hL
  have c1 := (blk_cell h.blk 1).trans rfl
  clear h hL
  go_enter Tryz.func87, Tryz.ntmps87
  go_wp2_with (first | (at_range; refine wpList_range_own _ rfl _ 131 rfl 3 158 kInt Tryz.underlying131 _ pm n D rfl hown ?_; intro w0 hrg0 hg0 hs0) | go_in)
  go_frame
  go_loopw [] (fun wr => ∃ (left : Lit → Bool) (cnt : Nat), wr.ranges Tryz.prog 3 elemP pm w.heap.size n D left cnt ∧ Hid ((∀ kl, left kl = true → Maps.has D kl = true) ∧ ∀ e ∈ l, e.2.named = true → e.2.id = id → left (.int .i64 e.1) = true) ∧ Hid (Below w.heap.size w wr)) (fun wr => wr.rangeLeft pm w.heap.size)
  case atStart =>
    refine ⟨_, _, hrg0, Lib.hid ⟨fun _ h => h, fun e he _ _ => ?_⟩, Lib.hid ⟨hg0.os, hg0.tape, hg0.output, hg0.size, fun k hk => hg0.block k hk (by simp)⟩⟩
    rw [HL.out.in_, lookB_of H.out.keys he]; rfl
  case round =>
    obtain ⟨left, cnt, hrg, hl, hb⟩ := hrel
    go_wp2_with (first
      | (at_next; refine wpList_next_ranges _ rfl _ rfl 3 kInt elemP (Value.int .i64) encP (fun key kl hkey => by obtain ⟨x, rfl, _⟩ := Maps.keyOf_int_inv Tryz.underlying3 hkey; exact ⟨x, rfl⟩) (fun v y hv => by obtain ⟨x, rfl, _⟩ := rdr_inv (enc := encP) (dat := datP) hv; exact ⟨x, rfl⟩) pm w.heap.size n D left cnt rfl hrg ?_ ?_)
      | go_in)
    · intro _ hl0
      have hnone : findP l id = (-1, 5) := findP_none (fun e he h => by
        have := hl.out.2 e he h.1 h.2
        rw [hl0] at this; cases this)
      go_wp2
      go_ret2
      rw [hnone]
      exact ⟨rfl, hb.out⟩
    · intro x c kl yd yp w1 cnt1 hkey hlk hRy hat hrg1 hlt hg1 hs1 hen
      obtain ⟨x', e1, rfl, hwx⟩ := Maps.keyOf_int_inv Tryz.underlying3 hkey
      injection e1 with _ e1
      subst e1
      have hin := HL.out.in_ x
      rw [hl.out.1 _ hlk] at hin
      obtain ⟨f, hf⟩ := Option.isSome_iff_exists.1 hin.symm
      have hfm := lookB_mem hf
      have hatf := HL.out.at_ x f hf
      have hc : c = some f.b := by
        have e2 := (hat (.lit (.int .i64 0))).symm.trans (hatf _)
        subst e2
        exact elemP_inv hRy
      subst hc
      have hb1 : Below w.heap.size w w1 := hb.out.grown hg1 hb.out.size (fun k e => by cases e; exact Nat.le_refl _)
      have hbf := (hb1.block _ (blk_lt (H.out.bufs _ hfm))).trans (H.out.bufs _ hfm)
      have g0 := (blk_cell hbf 0).trans rfl
      have g1 := (blk_cell hbf 1).trans rfl
      have HX := Lib.hid hfm
      have HB := Lib.hid hb1
      have HR := Lib.hid hrg1
      have HG := Lib.hid hrg
      have hn1 : ∀ v, f.named = true → f.id = id → v = (x, f) → findP l id = (x, 0) := fun v h1 h2 _ => findP_some H.out.names HX.out h1 h2
      have HN := Lib.hid hn1
      replace hen : (Instr.entry (.pointer (some ⟨w.heap.size, 0, none⟩))).run Tryz.prog w1 = .ok (.tuple #[.int .i64 x, (.pointer (some ⟨f.b, 0, none⟩))]) w1 := hen
      clear hb1 hbf hfm hatf hf hin hrg1 hrg hn1 hat hRy hkey
      have hll := Lib.hid hl.out
      have hbH := hb
      clear hl hb
      by_cases hnm : f.named = true
      · by_cases hid : f.id = id
        · have hfd := Lib.hid (HN.out _ hnm hid rfl)
          clear HN
          go_wp2
          go_ret2
          rw [hfd.out]
          exact ⟨rfl, HB.out⟩
        · have hne : (f.id == id) = false := by rw [beq_eq_false_iff_ne]; exact hid
          clear HN
          go_wp2
          go_roundw
          case rel =>
            refine ⟨_, cnt1, HR.out, Lib.hid ⟨fun kl h => hll.out.1 kl (by simp at h; exact h.1), fun e he h1 h2 => ?_⟩, HB⟩
            simp only [hll.out.2 e he h1 h2, Bool.true_and]
            rw [same_ne]
            · rfl
            · intro e1
              have := lookB_of H.out.keys he
              rw [e1, lookB_of (e := (x, f)) H.out.keys HX.out] at this
              injection this with this
              have h3 : f = e.2 := this
              rw [h3] at hid; exact hid h2
          case measure => rw [HR.out.left_eq, HG.out.left_eq]; exact hlt
      · have hnf : f.named = false := by simpa using hnm
        rw [hnf] at g1
        have hnn := Lib.hid hnf
        clear HN hnm hnf
        go_wp2
        go_roundw
        case rel =>
          refine ⟨_, cnt1, HR.out, Lib.hid ⟨fun kl h => hll.out.1 kl (by simp at h; exact h.1), fun e he h1 h2 => ?_⟩, HB⟩
          simp only [hll.out.2 e he h1 h2, Bool.true_and]
          rw [same_ne]
          · rfl
          · intro e1
            have := lookB_of H.out.keys he
            rw [e1, lookB_of (e := (x, f)) H.out.keys HX.out] at this
            injection this with this
            have h3 : f = e.2 := this
            rw [← h3, hnn.out] at h1; cases h1
        case measure => rw [HR.out.left_eq, HG.out.left_eq]; exact hlt
end Go.Proofs.YtbkhcdmmnlkhdaaGreat
