/- Regions: what is kept of two lists, walked. -/
import Derived.Test.YtbkhcdmmnlkhdaaGreatRegE
namespace Go.Proofs.YtbkhcdmmnlkhdaaGreat
open Go.RowKit Go.Proofs.YtbkhcdmmnlkhdaaGreatW.PrintWords
set_option linter.unusedSimpArgs false
set_option linter.unusedVariables false
set_option maxRecDepth 1000000
def lowR (y : Int) (r : R) : R := ⟨r.x0, r.y0, r.x1, y⟩
/-- A band more. -/
def mergeS (y' : Int) (own : List R) (s : List R × List R) : List R × List R := if alikeL s.2 own then (s.1, s.2.map (lowR y')) else (s.1 ++ s.2, own)
def mergeI (ys : List Int) (bnd : Int → Int → List R) : Nat → List R × List R
  | 0 => ([], [])
  | i + 1 => mergeS (ys.getD (i + 1) 0) (bnd (ys.getD i 0) (ys.getD (i + 1) 0)) (mergeI ys bnd i)
def mergeL (kf : Bool → Bool → Bool) (a b : List R) : List R :=
  (mergeI (ysL a b) (bandL kf a b) ((ysL a b).length - 1)).1 ++ (mergeI (ysL a b) (bandL kf a b) ((ysL a b).length - 1)).2
theorem mergeS_len (y' : Int) (own : List R) (s : List R × List R) : (mergeS y' own s).1.length + (mergeS y' own s).2.length ≤ s.1.length + s.2.length + own.length := by
  unfold mergeS
  split
  · simp
  · simp
theorem mergeI_len (ys : List Int) (bnd : Int → Int → List R) (n : Nat) (h : ∀ y y', (bnd y y').length ≤ n) (i : Nat) : (mergeI ys bnd i).1.length + (mergeI ys bnd i).2.length ≤ i * n := by
  induction i with
  | zero => simp [mergeI]
  | succ i ih =>
    have h1 := mergeS_len (ys.getD (i + 1) 0) (bnd (ys.getD i 0) (ys.getD (i + 1) 0)) (mergeI ys bnd i)
    have h2 := h (ys.getD i 0) (ys.getD (i + 1) 0)
    simp only [mergeI, Nat.succ_mul]
    omega
theorem set_y1 (m : List R) (r : R) (t : List R) (y : Int) : (flatE RE (m ++ r :: t)).set (m.length * 4 + 3) (.int .i64 y) = flatE RE (m ++ lowR y r :: t) := by
  have hl : (flatE RE m).length = m.length * 4 := flatE_len RE m
  rw [flatE_append, flatE_append, List.set_append, if_neg (by omega), hl, Nat.add_sub_cancel_left]
  rfl
theorem low_step (l : List R) (k : Nat) (y : Int) (h : k < l.length) : (l.take k).map (lowR y) ++ l.drop k = (l.take k).map (lowR y) ++ atR l k :: l.drop (k + 1) ∧ (l.take (k + 1)).map (lowR y) ++ l.drop (k + 1) = (l.take k).map (lowR y) ++ lowR y (atR l k) :: l.drop (k + 1) := by
  refine ⟨by rw [atR_get h, List.drop_eq_getElem_cons h], ?_⟩
  rw [takeR l k h, List.map_append, List.append_assoc]; rfl
set_option maxHeartbeats 4000000 in
theorem reg_merge (fk : Nat) (heg : ∀ args w, (callFunc fk args).run Tryz.prog w = .ok (.enter fk args) w) (kf : Bool → Bool → Bool) (hkf : KeepB fk kf) (A B : Option Addr) (a b : List R) (ca cb : Nat) (w : World) (hn : a.length + b.length ≤ 1000000) (ha : RdG RE w A a ca) (hb : RdG RE w B b cb) :
    Calls Tryz.prog 186 #[.slice A a.length ca, .slice B b.length cb, .func (.func fk) #[] #[]] w (RowP RE 26 w (mergeL kf a b)) := by
  have cE := fun g W h1 h2 h3 => reg_edges 210 (enters_of Tryz.func210 (by kernel_rfl) rfl) R.y0 R.y1 (fun W r => reg_merge1 r W) g A B a b ca cb W h1 h2 h3 hn
  obtain ⟨i0, hi0, hzz⟩ := Option.map_eq_some_iff.1 info_rect
  simp only [Prod.mk.injEq] at hzz
  obtain ⟨hz0, hz1', hz2'⟩ := hzz
  have hbl : ∀ y y', (bandL kf a b y y').length ≤ 2 * (a.length + b.length) := fun y y' => bandL_len kf a b y y'
  have hzl : (ysL a b).length ≤ 2 * (a.length + b.length) := by have := edgesL_len R.y0 R.y1 (a ++ b); rwa [List.length_append] at this
  unfold mergeL
  have hys : edgesL R.y0 R.y1 (a ++ b) = ysL a b := rfl
  rw [hys] at cE
  clear hys
  go_enter Tryz.func186, Tryz.ntmps186
  go_wp2_with (first
    | (go_at_call 209; (with_reducible refine (cE _ _ (blk_new _ _) (ha.below ?_) (hb.below ?_)).mono ?_); (focus ((repeat (first | (with_reducible exact Below.refl _ _) | ((with_reducible refine Below.alloc ?_ ?hB _); (case hB => (first | omega | (simp; done) | (simp; omega)))) | ((with_reducible refine Below.setCell ?_ ?hB _); (case hB => (first | omega | (simp; done) | (simp; omega)))) | (with_reducible refine Below.drew ?_) | ((with_reducible refine below_ext_of ?_ ?hB); (case hB => (first | omega | (simp; done) | (simp; omega)))) | ((with_reducible refine Below.trans ?_ (Below.mono (by assumption) ?hB)); (case hB => (first | omega | (simp; done) | (simp; omega)))))); done)); (focus ((repeat (first | (with_reducible exact Below.refl _ _) | ((with_reducible refine Below.alloc ?_ ?hB _); (case hB => (first | omega | (simp; done) | (simp; omega)))) | ((with_reducible refine Below.setCell ?_ ?hB _); (case hB => (first | omega | (simp; done) | (simp; omega)))) | (with_reducible refine Below.drew ?_) | ((with_reducible refine below_ext_of ?_ ?hB); (case hB => (first | omega | (simp; done) | (simp; omega)))) | ((with_reducible refine Below.trans ?_ (Below.mono (by assumption) ?hB)); (case hB => (first | omega | (simp; done) | (simp; omega)))))); done)); rintro e w3 ⟨v3, rfl, ho3, hb3⟩; have hz3 := hb3.size; (try simp only [World.size_alloc] at hz3); obtain ⟨A3, c3, rfl, hr3, -⟩ := ho3.rd))
  generalize hzs : ysL a b = zs at *
  have HZ := Lib.hid hzs
  clear hzs
  obtain ⟨N, hN⟩ : ∃ N, zs.length - 1 = N := ⟨_, rfl⟩
  have hM : max ((zs.length : Int) - 1) 0 = (N : Int) := by omega
  rw [hM]
  have hz3' : w.heap.size ≤ w3.heap.size := by omega
  have hbw3 := Lib.hid (show Below w.heap.size w w3 by (repeat (first | (with_reducible exact Below.refl _ _) | ((with_reducible refine Below.alloc ?_ ?hB _); (case hB => (first | omega | (simp; done) | (simp; omega)))) | ((with_reducible refine Below.setCell ?_ ?hB _); (case hB => (first | omega | (simp; done) | (simp; omega)))) | (with_reducible refine Below.drew ?_) | ((with_reducible refine below_ext_of ?_ ?hB); (case hB => (first | omega | (simp; done) | (simp; omega)))) | ((with_reducible refine Below.trans ?_ (Below.mono (by assumption) ?hB)); (case hB => (first | omega | (simp; done) | (simp; omega)))))))
  have hra := Lib.hid (ha.below hbw3.out)
  have hrb := Lib.hid (hb.below hbw3.out)
  have hrx := Lib.hid hr3
  replace hkf := Lib.hid hkf
  have hN1 : N ≤ 2 * (a.length + b.length) := by omega
  have HL := Lib.hid (mergeI_len zs (bandL kf a b) (2 * (a.length + b.length)) hbl)
  replace hbl := Lib.hid hbl
  replace hM := Lib.hid hM
  replace hN := Lib.hid hN
  clear ha hb cE ho3 hr3 hb3 hz3 hzl
  go_loopw [8, 9, 21] (fun v u i wr => ∃ k : Nat, k ≤ N ∧ i = .int .i64 k ∧ Below w3.heap.size w3 wr ∧ Hid (OwnG RE wr w3.heap.size 26 v (mergeI zs (bandL kf a b) k).1) ∧ Hid (OwnG RE wr w3.heap.size 26 u (mergeI zs (bandL kf a b) k).2) ∧ Hid (∀ g, u.ownBlock = some g → v.ownBlock ≠ some g)) (fun _ _ i _ => N - (intOf i).toNat)
  case atStart => exact ⟨0, by omega, rfl, Below.refl _ _, Lib.hid (OwnG.nil _ _ _), Lib.hid (OwnG.nil _ _ _), Lib.hid (fun g h => by cases h)⟩
  case round =>
    obtain ⟨k, hk, rfl, hb2, hov, hou, hne0⟩ := hrel
    by_cases hkl : k < N
    · have hkN : k + 1 < zs.length := by have := hN.out; omega
      obtain ⟨b0, off, rfl, hb0, hrow⟩ := RdI.at hrx.out (by omega)
      have q1 := Lib.hid (hrow (k + 1) hkN)
      have g0 := (hb2.cell (p := ⟨b0, off + k, none⟩) hb0).trans (hrow k (by omega))
      have g1 := (hb2.cell (p := ⟨b0, off + (k + 1), none⟩) hb0).trans (hrow (k + 1) hkN)
      have hkz : (k : Int) < N := by omega
      have hzq := hb2.size
      have j0 : (0 : Int) ≤ (k : Int) := by omega
      have j1 : (k : Int) < zs.length := by omega
      have j2 : (0 : Int) ≤ (k : Int) + 1 := by omega
      have j3 : (k : Int) + 1 < zs.length := by omega
      have j4 : IntKind.i64.wrap ((k : Int) + 1) = (k : Int) + 1 := by rw [IntKind.wrap_i64]; omega
      have hbx : b0 < wr.heap.size := by omega
      have hS : mergeI zs (bandL kf a b) (k + 1) = mergeS (zs.getD (k + 1) 0) (bandL kf a b (zs.getD k 0) (zs.getD (k + 1) 0)) (mergeI zs (bandL kf a b) k) := rfl
      have hll := HL.out k
      have hlo := hbl.out (zs.getD k 0) (zs.getD (k + 1) 0)
      have hkk : k * (2 * (a.length + b.length)) ≤ 4000000000000 := Nat.le_trans (Nat.mul_le_mul (show k ≤ 2000000 by omega) (show 2 * (a.length + b.length) ≤ 2000000 by omega)) (by omega)
      have cB := fun W h => reg_band fk heg kf hkf.out A B a b ca cb (zs.getD k 0) (zs.getD (k + 1) 0) W hn (hra.out.below h) (hrb.out.below h)
      replace hS := Lib.hid hS
      clear hrow
      generalize zs.getD k 0 = x at *
      generalize zs.getD (k + 1) 0 = x' at *
      generalize bandL kf a b x x' = own at *
      generalize mergeI zs (bandL kf a b) k = ml at *
      obtain ⟨m1, m2⟩ := ml
      simp only at hov hou hll
      obtain ⟨A2, c2, hu2, hr2, -⟩ := hou.out.rd
      subst hu2
      replace hr2 := Lib.hid hr2
      go_wp2_with fail
      (refine wp_region_ext_tail 12 (by kernel_rfl) (by kernel_rfl) ?_; simp only [List.take_succ_cons, List.take_zero, List.drop_succ_cons, List.drop_zero]; (repeat (go_big_quiet_step ((fail)))); refine wpQuiet_nil ?_; intro w5 hb_w5; obtain ⟨hc_w5, hf_w5⟩ := bcell hb_w5; have hz_w5 := hb_w5.size; (try simp only [World.size_alloc, World.size_setCell, World.size_drew] at hz_w5))
      go_wp2_with (first
        | (go_at_call 211; (with_reducible refine (cB _ ?_).mono ?_); (focus ((repeat (first | (with_reducible exact Below.refl _ _) | ((with_reducible refine Below.alloc ?_ ?hB _); (case hB => (first | omega | (simp; done) | (simp; omega)))) | ((with_reducible refine Below.setCell ?_ ?hB _); (case hB => (first | omega | (simp; done) | (simp; omega)))) | (with_reducible refine Below.drew ?_) | ((with_reducible refine below_ext_of ?_ ?hB); (case hB => (first | omega | (simp; done) | (simp; omega)))) | ((with_reducible refine Below.trans ?_ (Below.mono (by assumption) ?hB)); (case hB => (first | omega | (simp; done) | (simp; omega)))))); done)); rintro e w6 ⟨v6, rfl, ho6, hb6⟩; have hz6 := hb6.size; obtain ⟨A6, c6, rfl, hr6, hA6⟩ := ho6.rd)
        | fail)
      have cA := reg_alike A2 A6 m2 own c2 c6 w6 ((hr2.out.below hb_w5).below hb6) hr6
      have ho6h := Lib.hid ho6
      have hA6h := Lib.hid hA6
      have hbw6 : Below wr.heap.size wr w6 := by (repeat (first | (with_reducible exact Below.refl _ _) | ((with_reducible refine Below.alloc ?_ ?hB _); (case hB => (first | omega | (simp; done) | (simp; omega)))) | ((with_reducible refine Below.setCell ?_ ?hB _); (case hB => (first | omega | (simp; done) | (simp; omega)))) | (with_reducible refine Below.drew ?_) | ((with_reducible refine below_ext_of ?_ ?hB); (case hB => (first | omega | (simp; done) | (simp; omega)))) | ((with_reducible refine Below.trans ?_ (Below.mono (by assumption) ?hB)); (case hB => (first | omega | (simp; done) | (simp; omega))))))
      have hb36 : Below w3.heap.size w3 w6 := hb2.trans (hbw6.mono hzq)
      have hov6 := Lib.hid (hov.out.below hbw6)
      have hou6 := Lib.hid (hou.out.below hbw6)
      have hr26 := Lib.hid (hr2.out.below hbw6)
      have hzw6 : wr.heap.size ≤ w6.heap.size := hbw6.size
      have h5z : wr.heap.size ≤ w5.heap.size := hz_w5
      clear ho6 hA6 hr6 hb_w5 hc_w5 hf_w5 hb6 hbw6 hb2 g0 g1
      cases hal : alikeL m2 own with
      | false =>
        rw [hal] at cA
        replace hal := Lib.hid hal
        go_wp2_with (first
          | (go_at_call 212; (with_reducible refine cA.mono ?_); rintro e w7 ⟨rfl, hb7⟩; have hz7 := hb7.size)
          | (at_builtin; refine appG_row (E := RE) (w0 := w3) w3.heap.size rfl _ _ 75 26 _ 4 32 rfl rfl Tryz.underlying75 info_rect rfl (by decide) _ m1 m2 A2 c2 rfl rfl (OwnG.below hov6.out ?_) (hr26.out.below ?_) ?_ ?_ ?_ ?_; (focus ((repeat (first | (with_reducible exact Below.refl _ _) | ((with_reducible refine Below.alloc ?_ ?hB _); (case hB => (first | omega | (simp; done) | (simp; omega)))) | ((with_reducible refine Below.setCell ?_ ?hB _); (case hB => (first | omega | (simp; done) | (simp; omega)))) | (with_reducible refine Below.drew ?_) | ((with_reducible refine below_ext_of ?_ ?hB); (case hB => (first | omega | (simp; done) | (simp; omega)))) | ((with_reducible refine Below.trans ?_ (Below.mono (by assumption) ?hB)); (case hB => (first | omega | (simp; done) | (simp; omega)))))); done)); (focus ((repeat (first | (with_reducible exact Below.refl _ _) | ((with_reducible refine Below.alloc ?_ ?hB _); (case hB => (first | omega | (simp; done) | (simp; omega)))) | ((with_reducible refine Below.setCell ?_ ?hB _); (case hB => (first | omega | (simp; done) | (simp; omega)))) | (with_reducible refine Below.drew ?_) | ((with_reducible refine below_ext_of ?_ ?hB); (case hB => (first | omega | (simp; done) | (simp; omega)))) | ((with_reducible refine Below.trans ?_ (Below.mono (by assumption) ?hB)); (case hB => (first | omega | (simp; done) | (simp; omega)))))); done)); (focus ((repeat (first | (with_reducible exact Below.refl _ _) | ((with_reducible refine Below.alloc ?_ ?hB _); (case hB => (first | omega | (simp; done) | (simp; omega)))) | ((with_reducible refine Below.setCell ?_ ?hB _); (case hB => (first | omega | (simp; done) | (simp; omega)))) | (with_reducible refine Below.drew ?_) | ((with_reducible refine below_ext_of ?_ ?hB); (case hB => (first | omega | (simp; done) | (simp; omega)))) | ((with_reducible refine Below.trans ?_ (Below.mono (by assumption) ?hB)); (case hB => (first | omega | (simp; done) | (simp; omega)))))); done)); (focus ((first | omega | (simp; done) | (simp; omega)); done)); (focus omega); intro v9 w9 ho9 hb9 hg9 hat9))
        go_roundw
        case rel =>
          have hlt8 : ∀ g, u8.ownBlock = some g → g < wr.heap.size := fun g h => (World.ownsRow.lt hov.out g h).2
          have hge6 : ∀ g, (Value.slice A6 own.length c6).ownBlock = some g → w5.heap.size ≤ g := fun g h => (World.ownsRow.lt ho6h.out g h).1
          have hlt6 : ∀ g, (Value.slice A6 own.length c6).ownBlock = some g → g < w6.heap.size := fun g h => (World.ownsRow.lt ho6h.out g h).2
          refine ⟨k + 1, by omega, by go_num, hb9, Lib.hid (by rw [hS.out]; unfold mergeS; rw [if_neg (by rw [hal.out]; decide)]; exact ho9), Lib.hid (by
            rw [hS.out]; unfold mergeS; rw [if_neg (by rw [hal.out]; decide)]
            refine OwnG.mono (OwnG.same (ho6h.out.below hb7) fun g hg => hg9.block g (by have := hlt6 g hg; omega) (fun e => ?_)) (show w3.heap.size ≤ w5.heap.size by omega)
            have h1 := hlt8 g e.symm
            have h2 := hge6 g hg
            omega), Lib.hid (fun g hg e => ?_)⟩
          have h2 := hge6 g hg
          have h3 := hlt6 g hg
          rcases hat9 with h | ⟨g', h, hg'⟩
          · have h1 := hlt8 g (h.symm.trans e)
            omega
          · rw [h] at e
            injection e with e
            omega
        case measure => simp [intOf]; omega
      | true =>
        rw [hal] at cA
        replace hal := Lib.hid hal
        have hpos : 0 < m2.length := by
          have := hal.out
          unfold alikeL at this
          rw [Bool.and_eq_true] at this
          simpa using this.1
        obtain ⟨g, cap, rest, hv2, hgb, hh2, -, -, -⟩ := hou6.out.form hpos
        injection hv2 with e1 _ e3
        subst e1
        subst e3
        clear hh2
        have hgl : g < w6.heap.size := (World.ownsRow.lt hou6.out g rfl).2
        go_wp2_with (first
          | (go_at_call 212; (with_reducible refine cA.mono ?_); rintro e w7 ⟨rfl, hb7⟩; have hz7 := hb7.size))
        have hb37 : Below w3.heap.size w3 w7 := by (repeat (first | (with_reducible exact Below.refl _ _) | ((with_reducible refine Below.alloc ?_ ?hB _); (case hB => (first | omega | (simp; done) | (simp; omega)))) | ((with_reducible refine Below.setCell ?_ ?hB _); (case hB => (first | omega | (simp; done) | (simp; omega)))) | (with_reducible refine Below.drew ?_) | ((with_reducible refine below_ext_of ?_ ?hB); (case hB => (first | omega | (simp; done) | (simp; omega)))) | ((with_reducible refine Below.trans ?_ (Below.mono (by assumption) ?hB)); (case hB => (first | omega | (simp; done) | (simp; omega))))))
        have hou7 := Lib.hid (hou6.out.below hb7)
        have hov7 := Lib.hid (hov6.out.below hb7)
        clear hb7 hb36
        have hne1 := Lib.hid (hne0.out g rfl)
        go_loopw [42] (fun i wq => ∃ j : Nat, j ≤ m2.length ∧ i = .int .i64 j ∧ Below w3.heap.size w3 wq ∧ w7.heap.size ≤ wq.heap.size ∧ Hid (OwnG RE wq w3.heap.size 26 (.slice (some ⟨g, 0, none⟩) m2.length c2) ((m2.take j).map (lowR x') ++ m2.drop j)) ∧ Hid (OwnG RE wq w3.heap.size 26 u8 m1)) (fun i _ => m2.length - (intOf i).toNat)
        case atStart => exact ⟨0, by omega, rfl, hb37, Nat.le_refl _, by simpa using hou7, hov7⟩
        case round =>
          obtain ⟨j, hj, rfl, hbq, hzq', hoq, hvq⟩ := hrel
          by_cases hjl : j < m2.length
          · have hjz : (j : Int) < m2.length := by omega
            obtain ⟨hs1, hs2⟩ := low_step m2 j x' hjl
            have q2 := (hbq.cell (p := ⟨b0, off + (k + 1), none⟩) hb0).trans q1.out
            have hlj : ((m2.take j).map (lowR x')).length = j := by simp; omega
            have hlen2 : ((m2.take j).map (lowR x') ++ m2.drop j).length = m2.length := by simp; omega
            have hb0q : b0 < wr.heap.size := by omega
            have hoq' : wr.ownsRow w3.heap.size 26 4 (.slice (some ⟨g, 0, none⟩) m2.length c2) m2.length (flatE RE ((m2.take j).map (lowR x') ++ m2.drop j)) := by
              have := hoq.out
              unfold OwnG at this
              rwa [hlen2] at this
            have hfz := World.ownsRow.frozenAt hoq' (j * 4 + 3)
            have hc3 := World.ownsRow.cellAt hoq' (j * 4 + 3) (by omega)
            obtain ⟨u3, hu3⟩ : ∃ u3, (flatE RE ((m2.take j).map (lowR x') ++ m2.drop j))[j * 4 + 3]? = some u3 := by
              refine ⟨_, List.getElem?_eq_getElem ?_⟩
              rw [flatE_len, hlen2]; show j * 4 + 3 < m2.length * 4; omega
            rw [hu3] at hc3
            have hst := Lib.hid (World.ownsRow.stored hoq' (j * 4 + 3) (.int .i64 x')).1
            replace hoq' := Lib.hid hoq'
            have hS1 := Lib.hid hs1
            have hS2 := Lib.hid hs2
            have hLJ := Lib.hid hlj
            have HL2 := Lib.hid hlen2
            clear hs1 hs2 hlj hlen2 hu3
            go_wp2
            go_roundw
            case rel =>
              refine ⟨j + 1, by omega, by go_num, by (repeat (first | (with_reducible exact Below.refl _ _) | ((with_reducible refine Below.alloc ?_ ?hB _); (case hB => (first | omega | (simp; done) | (simp; omega)))) | ((with_reducible refine Below.setCell ?_ ?hB _); (case hB => (first | omega | (simp; done) | (simp; omega)))) | (with_reducible refine Below.drew ?_) | ((with_reducible refine below_ext_of ?_ ?hB); (case hB => (first | omega | (simp; done) | (simp; omega)))) | ((with_reducible refine Below.trans ?_ (Below.mono (by assumption) ?hB)); (case hB => (first | omega | (simp; done) | (simp; omega)))))), by simp; omega, Lib.hid ?_, Lib.hid ?_⟩
              · have h6 := hst.out
                rw [hS1.out] at h6
                have h7 := set_y1 ((m2.take j).map (lowR x')) (atR m2 j) (m2.drop (j + 1)) x'
                rw [hLJ.out] at h7
                rw [h7, ← hS2.out] at h6
                unfold OwnG
                rw [show ((m2.take (j + 1)).map (lowR x') ++ m2.drop (j + 1)).length = m2.length by simp; omega]
                exact h6
              · exact hvq.out.same fun b hb => heap_setCell_other _ ⟨g, j * 4 + 3, none⟩ b _ (fun e => hne1.out (by rw [hb]; exact congrArg some e))
            case measure => simp [intOf]; omega
          · obtain rfl : j = m2.length := by omega
            have hjz : ¬ ((m2.length : Int) < m2.length) := by omega
            have hoq2 : OwnG RE wr w3.heap.size 26 (.slice (some ⟨g, 0, none⟩) m2.length c2) (m2.map (lowR x')) := by
              have := hoq.out
              rw [List.take_length, List.drop_length, List.append_nil] at this
              exact this
            replace hoq2 := Lib.hid hoq2
            go_wp2
            go_roundw
            case rel => exact ⟨k + 1, by omega, by go_num, hbq, Lib.hid (by rw [hS.out]; unfold mergeS; rw [if_pos hal.out]; exact hvq.out), Lib.hid (by rw [hS.out]; unfold mergeS; rw [if_pos hal.out]; exact hoq2.out), hne0⟩
            case measure => simp [intOf]; omega
    · obtain rfl : k = N := by omega
      have hkz : ¬ ((k : Int) < k) := by omega
      have hll := HL.out k
      have hkk : k * (2 * (a.length + b.length)) ≤ 4000000000000 := Nat.le_trans (Nat.mul_le_mul (show k ≤ 2000000 by omega) (show 2 * (a.length + b.length) ≤ 2000000 by omega)) (by omega)
      have hzq := hb2.size
      generalize hml : mergeI zs (bandL kf a b) k = ml at *
      have HML := Lib.hid hml
      clear hml
      obtain ⟨m1, m2⟩ := ml
      simp only at hov hou hll
      obtain ⟨A2, c2, hu2, hr2, -⟩ := hou.out.rd
      subst hu2
      go_wp2_with (first
        | (at_builtin; refine appG_row (E := RE) (w0 := w3) w3.heap.size rfl _ _ 75 26 _ 4 32 rfl rfl Tryz.underlying75 info_rect rfl (by decide) _ m1 m2 A2 c2 rfl rfl (OwnG.below hov.out ?_) (hr2.below ?_) ?_ ?_ ?_ ?_; (focus ((repeat (first | (with_reducible exact Below.refl _ _) | ((with_reducible refine Below.alloc ?_ ?hB _); (case hB => (first | omega | (simp; done) | (simp; omega)))) | ((with_reducible refine Below.setCell ?_ ?hB _); (case hB => (first | omega | (simp; done) | (simp; omega)))) | (with_reducible refine Below.drew ?_) | ((with_reducible refine below_ext_of ?_ ?hB); (case hB => (first | omega | (simp; done) | (simp; omega)))) | ((with_reducible refine Below.trans ?_ (Below.mono (by assumption) ?hB)); (case hB => (first | omega | (simp; done) | (simp; omega)))))); done)); (focus ((repeat (first | (with_reducible exact Below.refl _ _) | ((with_reducible refine Below.alloc ?_ ?hB _); (case hB => (first | omega | (simp; done) | (simp; omega)))) | ((with_reducible refine Below.setCell ?_ ?hB _); (case hB => (first | omega | (simp; done) | (simp; omega)))) | (with_reducible refine Below.drew ?_) | ((with_reducible refine below_ext_of ?_ ?hB); (case hB => (first | omega | (simp; done) | (simp; omega)))) | ((with_reducible refine Below.trans ?_ (Below.mono (by assumption) ?hB)); (case hB => (first | omega | (simp; done) | (simp; omega)))))); done)); (focus ((repeat (first | (with_reducible exact Below.refl _ _) | ((with_reducible refine Below.alloc ?_ ?hB _); (case hB => (first | omega | (simp; done) | (simp; omega)))) | ((with_reducible refine Below.setCell ?_ ?hB _); (case hB => (first | omega | (simp; done) | (simp; omega)))) | (with_reducible refine Below.drew ?_) | ((with_reducible refine below_ext_of ?_ ?hB); (case hB => (first | omega | (simp; done) | (simp; omega)))) | ((with_reducible refine Below.trans ?_ (Below.mono (by assumption) ?hB)); (case hB => (first | omega | (simp; done) | (simp; omega)))))); done)); (focus ((first | omega | (simp; done) | (simp; omega)); done)); (focus omega); intro v9 w9 ho9 hb9 hg9 hat9))
      go_ret
      rw [hN.out, HML.out]
      exact ⟨_, rfl, OwnG.mono ho9 hz3', hbw3.out.trans (hb9.mono hz3')⟩
end Go.Proofs.YtbkhcdmmnlkhdaaGreat
