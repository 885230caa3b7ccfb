/- Regions: a band, walked. -/
import Derived.Test.YtbkhcdmmnlkhdaaGreatRegC
import Derived.Deep.RegionHeld3
import Derived.Deep.AppendLies
namespace Go.Proofs.YtbkhcdmmnlkhdaaGreat
open Go.RowKit Go.Proofs.YtbkhcdmmnlkhdaaGreatW.PrintWords
set_option linter.unusedSimpArgs false
set_option linter.unusedVariables false
set_option maxRecDepth 1000000
theorem RdI.at {q : IntKind} {w : World} {A : Option Addr} {l : List Int} {c : Nat} (h : RdG (EI q) w A l c) (hl : 0 < l.length) : ∃ b off, A = some ⟨b, off, none⟩ ∧ b < w.heap.size ∧ ∀ i, i < l.length → w.cell? ⟨b, off + i, none⟩ = some (.int q (l.getD i 0)) := by
  obtain ⟨b, off, rfl, hb, hc⟩ := h.place hl
  refine ⟨b, off, rfl, hb, fun i hi => ?_⟩
  have h0 := hc i hi 0 _ rfl
  rw [show (EI q).k = 1 from rfl, Nat.mul_one, Nat.add_zero] at h0
  rw [h0, List.getD_eq_getElem?_getD, List.getElem?_eq_getElem hi]; rfl
/-- A rectangle more of a band. -/
def bandS (x x' y0 y1 : Int) (k : Bool) (out : List R) : List R :=
  if k then (match out.getLast? with | some r => if r.x1 = x then out.dropLast ++ [⟨r.x0, r.y0, x', r.y1⟩] else out ++ [⟨x, y0, x', y1⟩] | none => [⟨x, y0, x', y1⟩]) else out
def bandI (xs : List Int) (y0 y1 : Int) (kp : Int → Bool) : Nat → List R
  | 0 => []
  | i + 1 => bandS (xs.getD i 0) (xs.getD (i + 1) 0) y0 y1 (kp (xs.getD i 0)) (bandI xs y0 y1 kp i)
theorem bandS_len (x x' y0 y1 : Int) (k : Bool) (out : List R) : (bandS x x' y0 y1 k out).length ≤ out.length + 1 := by
  unfold bandS
  split
  · split
    · split
      · simp only [List.length_append, List.length_dropLast, List.length_cons, List.length_nil]; omega
      · simp
    · simp
  · exact Nat.le_succ _
theorem bandI_len (xs : List Int) (y0 y1 : Int) (kp : Int → Bool) (i : Nat) : (bandI xs y0 y1 kp i).length ≤ i := by
  induction i with
  | zero => simp [bandI]
  | succ i ih => have := bandS_len (xs.getD i 0) (xs.getD (i + 1) 0) y0 y1 (kp (xs.getD i 0)) (bandI xs y0 y1 kp i); simp only [bandI]; omega
theorem bandS_f (x x' y0 y1 : Int) (out : List R) : bandS x x' y0 y1 false out = out := rfl
theorem bandS_nil (x x' y0 y1 : Int) : bandS x x' y0 y1 true [] = [⟨x, y0, x', y1⟩] := rfl
theorem bandS_in (x x' y0 y1 : Int) (m : List R) (r : R) (h : r.x1 = x) : bandS x x' y0 y1 true (m ++ [r]) = m ++ [⟨r.x0, r.y0, x', r.y1⟩] := by
  unfold bandS; rw [if_pos rfl, List.getLast?_concat]; simp [h]
theorem bandS_more (x x' y0 y1 : Int) (m : List R) (r : R) (h : ¬ r.x1 = x) : bandS x x' y0 y1 true (m ++ [r]) = m ++ [r] ++ [⟨x, y0, x', y1⟩] := by
  unfold bandS; rw [if_pos rfl, List.getLast?_concat]; simp [h]
theorem set_x1 (m : List R) (r : R) (x : Int) : (flatE RE (m ++ [r])).set (m.length * 4 + 2) (.int .i64 x) = flatE RE (m ++ [⟨r.x0, r.y0, x, r.y1⟩]) := by
  have hl : (flatE RE m).length = m.length * 4 := flatE_len RE m
  rw [flatE_append, flatE_append, List.set_append, if_neg (by omega), hl, Nat.add_sub_cancel_left]
  rfl
def xsL (a b : List R) : List Int := edgesL R.x0 R.x1 (a ++ b)
def ysL (a b : List R) : List Int := edgesL R.y0 R.y1 (a ++ b)
/-- A band of two lists. -/
def bandL (kf : Bool → Bool → Bool) (a b : List R) (y0 y1 : Int) : List R :=
  bandI (xsL (acrossL a y0) (acrossL b y0)) y0 y1 (fun x => kf (hasL (acrossL a y0) x) (hasL (acrossL b y0) x)) ((xsL (acrossL a y0) (acrossL b y0)).length - 1)
theorem compact_len (zs : List Int) : (Lib.compact zs).length ≤ zs.length := by
  unfold Lib.compact Lib.compactUpTo
  rw [List.length_map]
  refine Nat.le_trans (List.length_filter_le _ _) ?_
  simp
theorem edgesL_len (p q : R → Int) (l : List R) : (edgesL p q l).length ≤ 2 * l.length := by
  unfold edgesL
  refine Nat.le_trans (compact_len _) ?_
  rw [sorted_len, ptsL_len]; exact Nat.le_refl _
theorem bandL_len (kf : Bool → Bool → Bool) (a b : List R) (y0 y1 : Int) : (bandL kf a b y0 y1).length ≤ 2 * (a.length + b.length) := by
  refine Nat.le_trans (bandI_len _ _ _ _ _) ?_
  have := edgesL_len R.x0 R.x1 (acrossL a y0 ++ acrossL b y0)
  have h1 := acrossL_len a y0
  have h2 := acrossL_len b y0
  rw [List.length_append] at this
  unfold xsL
  omega
theorem reg_band1 (r : R) (W : World) : Calls Tryz.prog 218 #[(.agg #[.int .i64 (r).x0, .int .i64 (r).y0, .int .i64 (r).x1, .int .i64 (r).y1])] W fun e W' => e = .returned (.tuple #[.int .i64 r.x0, .int .i64 r.x1]) ∧ Below W.heap.size W W' := by
  go_enter Tryz.func218, Tryz.ntmps218
  go_wp2_with fail
  go_region
  all_goals
    go_wp2
    go_ret2
    exact ⟨rfl, by (repeat (first | (with_reducible exact Below.refl _ _) | ((with_reducible refine Below.alloc ?_ ?hB _); (case hB => (first | omega | (simp; done) | (simp; omega)))) | ((with_reducible refine Below.setCell ?_ ?hB _); (case hB => (first | omega | (simp; done) | (simp; omega)))) | (with_reducible refine Below.drew ?_) | ((with_reducible refine below_ext_of ?_ ?hB); (case hB => (first | omega | (simp; done) | (simp; omega)))) | ((with_reducible refine Below.trans ?_ (Below.mono (by assumption) ?hB)); (case hB => (first | omega | (simp; done) | (simp; omega))))))⟩
theorem reg_merge1 (r : R) (W : World) : Calls Tryz.prog 210 #[(.agg #[.int .i64 (r).x0, .int .i64 (r).y0, .int .i64 (r).x1, .int .i64 (r).y1])] W fun e W' => e = .returned (.tuple #[.int .i64 r.y0, .int .i64 r.y1]) ∧ Below W.heap.size W W' := by
  go_enter Tryz.func210, Tryz.ntmps210
  go_wp2_with fail
  go_region
  all_goals
    go_wp2
    go_ret2
    exact ⟨rfl, by (repeat (first | (with_reducible exact Below.refl _ _) | ((with_reducible refine Below.alloc ?_ ?hB _); (case hB => (first | omega | (simp; done) | (simp; omega)))) | ((with_reducible refine Below.setCell ?_ ?hB _); (case hB => (first | omega | (simp; done) | (simp; omega)))) | (with_reducible refine Below.drew ?_) | ((with_reducible refine below_ext_of ?_ ?hB); (case hB => (first | omega | (simp; done) | (simp; omega)))) | ((with_reducible refine Below.trans ?_ (Below.mono (by assumption) ?hB)); (case hB => (first | omega | (simp; done) | (simp; omega))))))⟩
/-- What two Bools are told. -/
def KeepB (fk : Nat) (kf : Bool → Bool → Bool) : Prop := ∀ W (p q : Bool), Calls Tryz.prog fk #[.bool p, .bool q] W fun e W' => e = .returned (.bool (kf p q)) ∧ W = W'
set_option maxHeartbeats 4000000 in
theorem reg_band (fk : Nat) (heg : ∀ args w, (callFunc fk args).run Tryz.prog w = .ok (.enter fk args) w) (kf : Bool → Bool → Bool) (hkf : KeepB fk kf) (A B : Option Addr) (a b : List R) (ca cb : Nat) (y0 y1 : Int) (w : World) (hn : a.length + b.length ≤ 1000000) (ha : RdG RE w A a ca) (hb : RdG RE w B b cb) :
    Calls Tryz.prog 211 #[.slice A a.length ca, .slice B b.length cb, .int .i64 y0, .int .i64 y1, .func (.func fk) #[] #[]] w (RowP RE 26 w (bandL kf a b y0 y1)) := by
  have hA := fun W (h : Below w.heap.size w W) => reg_across A a ca y0 W (by omega) (ha.below h)
  have hB := fun W (h : Below w.heap.size w W) => reg_across B b cb y0 W (by omega) (hb.below h)
  have h1 := acrossL_len a y0
  have h2 := acrossL_len b y0
  unfold bandL xsL
  generalize acrossL a y0 = a' at *
  generalize acrossL b y0 = b' at *
  clear ha hb
  obtain ⟨i0, hi0, hzz⟩ := Option.map_eq_some_iff.1 info_rect
  simp only [Prod.mk.injEq] at hzz
  obtain ⟨hz0, hz1', hz2'⟩ := hzz
  go_enter Tryz.func211, Tryz.ntmps211
  have cE := fun g A1 B1 c1 c2 W h1 h2 h3 => reg_edges 218 (enters_of Tryz.func218 (by kernel_rfl) rfl) R.x0 R.x1 (fun W r => reg_band1 r W) g A1 B1 a' b' c1 c2 W h1 h2 h3 (by omega)
  go_wp2_with (first
    | (go_at_call 217; (with_reducible refine (hA _ ?_).mono ?_); (focus ((repeat (first | (with_reducible exact Below.refl _ _) | ((with_reducible refine Below.alloc ?_ ?hB _); (case hB => (first | omega | (simp; done) | (simp; omega)))) | ((with_reducible refine Below.setCell ?_ ?hB _); (case hB => (first | omega | (simp; done) | (simp; omega)))) | (with_reducible refine Below.drew ?_) | ((with_reducible refine below_ext_of ?_ ?hB); (case hB => (first | omega | (simp; done) | (simp; omega)))) | ((with_reducible refine Below.trans ?_ (Below.mono (by assumption) ?hB)); (case hB => (first | omega | (simp; done) | (simp; omega)))))); done)); rintro e w1 ⟨v1, rfl, ho1, hb1⟩; have hz1 := hb1.size; obtain ⟨A1, c1, rfl, hr1, -⟩ := ho1.rd)
    | (go_at_call 217; (with_reducible refine (hB _ ?_).mono ?_); (focus ((repeat (first | (with_reducible exact Below.refl _ _) | ((with_reducible refine Below.alloc ?_ ?hB _); (case hB => (first | omega | (simp; done) | (simp; omega)))) | ((with_reducible refine Below.setCell ?_ ?hB _); (case hB => (first | omega | (simp; done) | (simp; omega)))) | (with_reducible refine Below.drew ?_) | ((with_reducible refine below_ext_of ?_ ?hB); (case hB => (first | omega | (simp; done) | (simp; omega)))) | ((with_reducible refine Below.trans ?_ (Below.mono (by assumption) ?hB)); (case hB => (first | omega | (simp; done) | (simp; omega)))))); done)); rintro e w2 ⟨v2, rfl, ho2, hb2⟩; have hz2 := hb2.size; obtain ⟨A2, c2, rfl, hr2, -⟩ := ho2.rd)
    | (go_at_call 209; (with_reducible refine (cE _ A1 A2 c1 c2 _ (blk_new _ _) ((hr1.below hb2).below ?_) (hr2.below ?_)).mono ?_); (focus ((repeat (first | (with_reducible exact Below.refl _ _) | ((with_reducible refine Below.alloc ?_ ?hB _); (case hB => (first | omega | (simp; done) | (simp; omega)))) | ((with_reducible refine Below.setCell ?_ ?hB _); (case hB => (first | omega | (simp; done) | (simp; omega)))) | (with_reducible refine Below.drew ?_) | ((with_reducible refine below_ext_of ?_ ?hB); (case hB => (first | omega | (simp; done) | (simp; omega)))) | ((with_reducible refine Below.trans ?_ (Below.mono (by assumption) ?hB)); (case hB => (first | omega | (simp; done) | (simp; omega)))))); done)); (focus ((repeat (first | (with_reducible exact Below.refl _ _) | ((with_reducible refine Below.alloc ?_ ?hB _); (case hB => (first | omega | (simp; done) | (simp; omega)))) | ((with_reducible refine Below.setCell ?_ ?hB _); (case hB => (first | omega | (simp; done) | (simp; omega)))) | (with_reducible refine Below.drew ?_) | ((with_reducible refine below_ext_of ?_ ?hB); (case hB => (first | omega | (simp; done) | (simp; omega)))) | ((with_reducible refine Below.trans ?_ (Below.mono (by assumption) ?hB)); (case hB => (first | omega | (simp; done) | (simp; omega)))))); done)); rintro e w3 ⟨v3, rfl, ho3, hb3⟩; have hz3 := hb3.size; (try simp only [World.size_alloc] at hz3); obtain ⟨A3, c3, rfl, hr3, -⟩ := ho3.rd))
  have hzl := edgesL_len R.x0 R.x1 (a' ++ b')
  rw [List.length_append] at hzl
  generalize hzs : edgesL R.x0 R.x1 (a' ++ b') = zs at *
  have HZ := Lib.hid hzs
  clear hzs
  obtain ⟨N, hN⟩ : ∃ N, zs.length - 1 = N := ⟨_, rfl⟩
  have hM : max (wrap64 ((zs.length : Int) - 1)) 0 = (N : Int) := by rw [show wrap64 ((zs.length : Int) - 1) = (zs.length : Int) - 1 by unfold wrap64; omega]; omega
  rw [hM]
  have hz3' : w.heap.size ≤ w3.heap.size := by omega
  have hbw3 := Lib.hid (show Below w.heap.size w w3 by (repeat (first | (with_reducible exact Below.refl _ _) | ((with_reducible refine Below.alloc ?_ ?hB _); (case hB => (first | omega | (simp; done) | (simp; omega)))) | ((with_reducible refine Below.setCell ?_ ?hB _); (case hB => (first | omega | (simp; done) | (simp; omega)))) | (with_reducible refine Below.drew ?_) | ((with_reducible refine below_ext_of ?_ ?hB); (case hB => (first | omega | (simp; done) | (simp; omega)))) | ((with_reducible refine Below.trans ?_ (Below.mono (by assumption) ?hB)); (case hB => (first | omega | (simp; done) | (simp; omega)))))))
  have hra := Lib.hid ((hr1.below hb2).below (show Below w2.heap.size w2 w3 by (repeat (first | (with_reducible exact Below.refl _ _) | ((with_reducible refine Below.alloc ?_ ?hB _); (case hB => (first | omega | (simp; done) | (simp; omega)))) | ((with_reducible refine Below.setCell ?_ ?hB _); (case hB => (first | omega | (simp; done) | (simp; omega)))) | (with_reducible refine Below.drew ?_) | ((with_reducible refine below_ext_of ?_ ?hB); (case hB => (first | omega | (simp; done) | (simp; omega)))) | ((with_reducible refine Below.trans ?_ (Below.mono (by assumption) ?hB)); (case hB => (first | omega | (simp; done) | (simp; omega))))))))
  have hrb := Lib.hid (hr2.below (show Below w2.heap.size w2 w3 by (repeat (first | (with_reducible exact Below.refl _ _) | ((with_reducible refine Below.alloc ?_ ?hB _); (case hB => (first | omega | (simp; done) | (simp; omega)))) | ((with_reducible refine Below.setCell ?_ ?hB _); (case hB => (first | omega | (simp; done) | (simp; omega)))) | (with_reducible refine Below.drew ?_) | ((with_reducible refine below_ext_of ?_ ?hB); (case hB => (first | omega | (simp; done) | (simp; omega)))) | ((with_reducible refine Below.trans ?_ (Below.mono (by assumption) ?hB)); (case hB => (first | omega | (simp; done) | (simp; omega))))))))
  have hrx := Lib.hid hr3
  unfold KeepB at hkf
  replace hkf := Lib.hid hkf
  replace hM := Lib.hid hM
  replace hN := Lib.hid hN
  have hN1 : N ≤ 4000000 := by have := hN.out; omega
  clear hA hB cE ho1 ho2 ho3 hr1 hr2 hr3 hb1 hb2 hb3 hz1 hz2 hz3 h1 h2 hn hzl
  go_loopw [12, 29] (fun v i wr => ∃ k : Nat, k ≤ N ∧ i = .int .i64 k ∧ Below w3.heap.size w3 wr ∧ Hid (OwnG RE wr w3.heap.size 26 v (bandI zs y0 y1 (fun x => kf (hasL a' x) (hasL b' x)) k))) (fun _ i _ => N - (intOf i).toNat)
  case atStart => exact ⟨0, by omega, rfl, Below.refl _ _, Lib.hid (OwnG.nil _ _ _)⟩
  case round =>
    obtain ⟨k, hk, rfl, hb2, ho2⟩ := hrel
    have hbw3o := hbw3
    by_cases hkl : k < N
    · have hkN : k + 1 < zs.length := by have := hN.out; omega
      obtain ⟨b0, off, rfl, hb0, hrow⟩ := RdI.at hrx.out (by omega)
      have g0 := (hb2.cell (p := ⟨b0, off + k, none⟩) hb0).trans (hrow k (by omega))
      have g1 := (hb2.cell (p := ⟨b0, off + (k + 1), none⟩) hb0).trans (hrow (k + 1) hkN)
      have hkz : (k : Int) < N := by omega
      have hzq := hb2.size
      have j0 : (0 : Int) ≤ (k : Int) := by omega
      have j1 : (k : Int) < zs.length := by omega
      have j2 : (0 : Int) ≤ (k : Int) + 1 := by omega
      have j3 : (k : Int) + 1 < zs.length := by omega
      have j4 : IntKind.i64.wrap ((k : Int) + 1) = (k : Int) + 1 := by rw [IntKind.wrap_i64]; omega
      have hm1 := bandI_len zs y0 y1 (fun x => kf (hasL a' x) (hasL b' x)) k
      have hS : bandI zs y0 y1 (fun x => kf (hasL a' x) (hasL b' x)) (k + 1) = bandS (zs.getD k 0) (zs.getD (k + 1) 0) y0 y1 (kf (hasL a' (zs.getD k 0)) (hasL b' (zs.getD k 0))) (bandI zs y0 y1 (fun x => kf (hasL a' x) (hasL b' x)) k) := rfl
      replace hS := Lib.hid hS
      generalize zs.getD k 0 = x at *
      generalize zs.getD (k + 1) 0 = x' at *
      generalize bandI zs y0 y1 (fun x => kf (hasL a' x) (hasL b' x)) k = m at *
      have cA := fun ex => reg_has A1 a' c1 x (ext wr ex) ((hra.out.below hb2).below (below_ext wr ex))
      have cB := fun ex => reg_has A2 b' c2 x (ext wr ex) ((hrb.out.below hb2).below (below_ext wr ex))
      have cK := fun W => hkf.out W (hasL a' x) (hasL b' x)
      have hbx : b0 < wr.heap.size := by omega
      clear hrow
      generalize hasL a' x = p at *
      generalize hasL b' x = q at *
      generalize kf p q = kb at *
      cases kb with
      | false =>
        go_wp2_with fail
        (refine wp_region_ext_lit (by kernel_rfl) (by kernel_rfl) ?_; (repeat (go_big_quiet_step (((first | (go_at_call 219; with_reducible exact ext_call (cA _)) | (go_at_call 219; with_reducible exact ext_call (cB _)) | (with_reducible exact ext_same (cK _))))))); refine wpQuiet_nil ?_; intro w5 hb_w5; obtain ⟨hc_w5, hf_w5⟩ := bcell hb_w5; have hz_w5 := hb_w5.size; (try simp only [World.size_alloc, World.size_setCell, World.size_drew] at hz_w5))
        go_wp2_with fail
        go_roundw
        case rel => exact ⟨k + 1, by omega, by go_num, by (repeat (first | (with_reducible exact Below.refl _ _) | ((with_reducible refine Below.alloc ?_ ?hB _); (case hB => (first | omega | (simp; done) | (simp; omega)))) | ((with_reducible refine Below.setCell ?_ ?hB _); (case hB => (first | omega | (simp; done) | (simp; omega)))) | (with_reducible refine Below.drew ?_) | ((with_reducible refine below_ext_of ?_ ?hB); (case hB => (first | omega | (simp; done) | (simp; omega)))) | ((with_reducible refine Below.trans ?_ (Below.mono (by assumption) ?hB)); (case hB => (first | omega | (simp; done) | (simp; omega)))))), Lib.hid (by rw [hS.out, bandS_f]; exact ho2.out.below (by (repeat (first | (with_reducible exact Below.refl _ _) | ((with_reducible refine Below.alloc ?_ ?hB _); (case hB => (first | omega | (simp; done) | (simp; omega)))) | ((with_reducible refine Below.setCell ?_ ?hB _); (case hB => (first | omega | (simp; done) | (simp; omega)))) | (with_reducible refine Below.drew ?_) | ((with_reducible refine below_ext_of ?_ ?hB); (case hB => (first | omega | (simp; done) | (simp; omega)))) | ((with_reducible refine Below.trans ?_ (Below.mono (by assumption) ?hB)); (case hB => (first | omega | (simp; done) | (simp; omega))))))))⟩
        case measure => simp [intOf]; omega
      | true =>
        rcases List.eq_nil_or_concat m with rfl | ⟨m', r, hm⟩
        · obtain ⟨Ao, co, hv, -, -⟩ := ho2.out.rd
          replace hv : u12 = .slice Ao 0 co := hv
          subst hv
          go_wp2_with fail
          (refine wp_region_ext_lit (by kernel_rfl) (by kernel_rfl) ?_; (repeat (go_big_quiet_step (((first | (go_at_call 219; with_reducible exact ext_call (cA _)) | (go_at_call 219; with_reducible exact ext_call (cB _)) | (with_reducible exact ext_same (cK _))))))); refine wpQuiet_nil ?_; intro w5 hb_w5; obtain ⟨hc_w5, hf_w5⟩ := bcell hb_w5; have hz_w5 := hb_w5.size; (try simp only [World.size_alloc, World.size_setCell, World.size_drew] at hz_w5))
          go_wp2_with fail
          (refine wp_region_ext_lit (by kernel_rfl) (by kernel_rfl) ?_; (repeat (go_big_quiet_step ((fail)))); refine wpQuiet_nil ?_; intro w6 hb_w6; obtain ⟨hc_w6, hf_w6⟩ := bcell hb_w6; have hz_w6 := hb_w6.size; (try simp only [World.size_alloc, World.size_setCell, World.size_drew] at hz_w6))
          go_wp2_with fail
          have hoN : wr.ownsRow w3.heap.size 26 4 (.slice Ao 0 co) 0 (flatE RE []) := ho2.out
          have hne : some b0 ≠ (Value.slice Ao 0 co).ownBlock := fun h => by
            have h2 := (World.ownsRow.lt ho2.out _ h.symm).1
            omega
          have q0 : w6.cell? ⟨b0, off + k, none⟩ = some (.int .i64 x) := (hb_w6.cell (p := ⟨b0, off + k, none⟩) (by show b0 < w5.heap.size; omega)).trans ((hb_w5.cell (p := ⟨b0, off + k, none⟩) hbx).trans g0)
          have q1 : w6.cell? ⟨b0, off + (k + 1), none⟩ = some (.int .i64 x') := (hb_w6.cell (p := ⟨b0, off + (k + 1), none⟩) (by show b0 < w5.heap.size; omega)).trans ((hb_w5.cell (p := ⟨b0, off + (k + 1), none⟩) hbx).trans g1)
          clear hc_w6 hf_w6 hc_w5 hf_w5 g0 g1
          (go_region_held3 (fun w' => w'.cell? ⟨b0, off + k, none⟩ = some (.int .i64 x) ∧ w'.cell? ⟨b0, off + (k + 1), none⟩ = some (.int .i64 x')) (first | go_keep | (go_split_ands; exact ⟨hgrow.cell (by assumption) hne, hgrow.cell (by assumption) hne⟩)) ((refine step_append_lies _ (by rfl) _ _ _ (by rfl) (w3.heap.size) 26 i0 _ 4 32 Tryz.underlying75 hi0 hz0 hz1' hz2' rfl (by omega) _ (0) (flatE RE ([] : List R)) (by rfl) (pw_own_below hoN (by (repeat (first | (with_reducible exact Below.refl _ _) | ((with_reducible refine Below.alloc ?_ ?hB _); (case hB => (first | omega | (simp; done) | (simp; omega)))) | ((with_reducible refine Below.setCell ?_ ?hB _); (case hB => (first | omega | (simp; done) | (simp; omega)))) | (with_reducible refine Below.drew ?_) | ((with_reducible refine below_ext_of ?_ ?hB); (case hB => (first | omega | (simp; done) | (simp; omega)))) | ((with_reducible refine Below.trans ?_ (Below.mono (by assumption) ?hB)); (case hB => (first | omega | (simp; done) | (simp; omega)))))))) ⟨(w6).heap.size, 0, none⟩ 1 1 [.int .i64 ((⟨x, y0, x', y1⟩ : R)).x0, .int .i64 ((⟨x, y0, x', y1⟩ : R)).y0, .int .i64 ((⟨x, y0, x', y1⟩ : R)).x1, .int .i64 ((⟨x, y0, x', y1⟩ : R)).y1] (by rfl) (by rfl) (World.news_of_block (cs := #[.int .i64 ((⟨x, y0, x', y1⟩ : R)).x0, .int .i64 ((⟨x, y0, x', y1⟩ : R)).y0, .int .i64 ((⟨x, y0, x', y1⟩ : R)).x1, .int .i64 ((⟨x, y0, x', y1⟩ : R)).y1]) (t := 26) (fr := (0, 0)) (heap_alloc_new (w6).drew _)) (by simp [Value.oneCell']) (by omega) (by simp only [maxLen]; omega) (by omega) (by simp; omega) ((w6).heap.size + 1) (by simp) ?_; intro gg gcap w8 ho8 hgrow hat hlt')))
          have hb8 : Below w3.heap.size w3 w8 := Below.grown (show Below w3.heap.size w3 _ from by (repeat (first | (with_reducible exact Below.refl _ _) | ((with_reducible refine Below.alloc ?_ ?hB _); (case hB => (first | omega | (simp; done) | (simp; omega)))) | ((with_reducible refine Below.setCell ?_ ?hB _); (case hB => (first | omega | (simp; done) | (simp; omega)))) | (with_reducible refine Below.drew ?_) | ((with_reducible refine below_ext_of ?_ ?hB); (case hB => (first | omega | (simp; done) | (simp; omega)))) | ((with_reducible refine Below.trans ?_ (Below.mono (by assumption) ?hB)); (case hB => (first | omega | (simp; done) | (simp; omega))))))) hgrow (by simp; omega) (fun k h => (World.ownsRow.lt ho2.out k h).1)
          go_wp2
          go_roundw
          case rel => exact ⟨k + 1, by omega, by go_num, hb8, Lib.hid (by rw [hS.out, bandS_nil]; exact OwnG.snoc (E := RE) (l := []) (x := ⟨x, y0, x', y1⟩) ho8)⟩
          case measure => simp [intOf]; omega
        · rw [List.concat_eq_append] at hm
          subst hm
          have hm2 : m'.length + 1 ≤ k := by simpa using hm1
          obtain ⟨Ag, cap, hv, hrg, hAb⟩ := ho2.out.rd
          subst hv
          obtain ⟨g, o0, rfl, hgl, hgr⟩ := RdR.at hrg (by simp)
          obtain rfl : o0 = 0 := by
            obtain ⟨g', _, _, h1, _⟩ := ho2.out.form (by simp)
            injection h1 with h1; injection h1 with h1; injection h1 
          obtain ⟨f0, f1, f2, f3⟩ := hgr m'.length (by simp)
          rw [show atR (m' ++ [r]) m'.length = r by simp [atR]] at f0 f1 f2 f3
          simp only [Nat.zero_add] at f0 f1 f2 f3
          have hgb : w3.heap.size ≤ g := hAb _ rfl
          clear hgr hrg hm1 hAb
          have hfz := World.ownsRow.frozenAt ho2.out (m'.length * 4 + 2)
          have hst := Lib.hid (fun u => World.ownsRow.stored ho2.out (m'.length * 4 + 2) u)
          by_cases hrx1 : r.x1 = x
          · go_wp2_with fail
            (refine wp_region_ext_lit (by kernel_rfl) (by kernel_rfl) ?_; (repeat (go_big_quiet_step (((first | (go_at_call 219; with_reducible exact ext_call (cA _)) | (go_at_call 219; with_reducible exact ext_call (cB _)) | (with_reducible exact ext_same (cK _))))))); refine wpQuiet_nil ?_; intro w5 hb_w5; obtain ⟨hc_w5, hf_w5⟩ := bcell hb_w5; have hz_w5 := hb_w5.size; (try simp only [World.size_alloc, World.size_setCell, World.size_drew] at hz_w5))
            go_wp2_with fail
            (refine wp_region_ext_lit (by kernel_rfl) (by kernel_rfl) ?_; (repeat (go_big_quiet_step ((fail)))); refine wpQuiet_nil ?_; intro w6 hb_w6; obtain ⟨hc_w6, hf_w6⟩ := bcell hb_w6; have hz_w6 := hb_w6.size; (try simp only [World.size_alloc, World.size_setCell, World.size_drew] at hz_w6))
            go_wp2_with fail
            go_roundw
            case rel =>
              refine ⟨k + 1, by omega, by go_num, by (repeat (first | (with_reducible exact Below.refl _ _) | ((with_reducible refine Below.alloc ?_ ?hB _); (case hB => (first | omega | (simp; done) | (simp; omega)))) | ((with_reducible refine Below.setCell ?_ ?hB _); (case hB => (first | omega | (simp; done) | (simp; omega)))) | (with_reducible refine Below.drew ?_) | ((with_reducible refine below_ext_of ?_ ?hB); (case hB => (first | omega | (simp; done) | (simp; omega)))) | ((with_reducible refine Below.trans ?_ (Below.mono (by assumption) ?hB)); (case hB => (first | omega | (simp; done) | (simp; omega)))))), Lib.hid ?_⟩
              rw [hS.out, bandS_in _ _ _ _ _ _ hrx1]
              have h6 := (World.ownsRow.stored ((ho2.out.below hb_w5).below hb_w6) (m'.length * 4 + 2) (.int .i64 x')).1
              rw [set_x1] at h6
              unfold OwnG
              rw [show (m' ++ [(⟨r.x0, r.y0, x', r.y1⟩ : R)]).length = (m' ++ [r]).length by simp]
              exact h6
            case measure => simp [intOf]; omega
          · go_wp2_with fail
            (refine wp_region_ext_lit (by kernel_rfl) (by kernel_rfl) ?_; (repeat (go_big_quiet_step (((first | (go_at_call 219; with_reducible exact ext_call (cA _)) | (go_at_call 219; with_reducible exact ext_call (cB _)) | (with_reducible exact ext_same (cK _))))))); refine wpQuiet_nil ?_; intro w5 hb_w5; obtain ⟨hc_w5, hf_w5⟩ := bcell hb_w5; have hz_w5 := hb_w5.size; (try simp only [World.size_alloc, World.size_setCell, World.size_drew] at hz_w5))
            go_wp2_with fail
            (refine wp_region_ext_lit (by kernel_rfl) (by kernel_rfl) ?_; (repeat (go_big_quiet_step ((fail)))); refine wpQuiet_nil ?_; intro w6 hb_w6; obtain ⟨hc_w6, hf_w6⟩ := bcell hb_w6; have hz_w6 := hb_w6.size; (try simp only [World.size_alloc, World.size_setCell, World.size_drew] at hz_w6))
            go_wp2_with fail
            have hne : some b0 ≠ (Value.slice (some ⟨g, 0, none⟩) (m' ++ [r]).length cap).ownBlock := fun h => by
              have h : some b0 = some g := h
              injection h with h
              omega
            have hoN : wr.ownsRow w3.heap.size 26 4 (.slice (some ⟨g, 0, none⟩) (m'.length + 1) cap) (m'.length + 1) (flatE RE (m' ++ [r])) := by
              have := ho2.out
              unfold OwnG at this
              rwa [List.length_append] at this
            have q0 : w6.cell? ⟨b0, off + k, none⟩ = some (.int .i64 x) := (hb_w6.cell (p := ⟨b0, off + k, none⟩) (by show b0 < w5.heap.size; omega)).trans ((hb_w5.cell (p := ⟨b0, off + k, none⟩) hbx).trans g0)
            have q1 : w6.cell? ⟨b0, off + (k + 1), none⟩ = some (.int .i64 x') := (hb_w6.cell (p := ⟨b0, off + (k + 1), none⟩) (by show b0 < w5.heap.size; omega)).trans ((hb_w5.cell (p := ⟨b0, off + (k + 1), none⟩) hbx).trans g1)
            clear hc_w6 hf_w6 hc_w5 hf_w5 g0 g1 f0 f1 f2 f3
            (go_region_held3 (fun w' => w'.cell? ⟨b0, off + k, none⟩ = some (.int .i64 x) ∧ w'.cell? ⟨b0, off + (k + 1), none⟩ = some (.int .i64 x')) (first | go_keep | (go_split_ands; exact ⟨hgrow.cell (by assumption) hne, hgrow.cell (by assumption) hne⟩)) ((refine step_append_lies _ (by rfl) _ _ _ (by rfl) (w3.heap.size) 26 i0 _ 4 32 Tryz.underlying75 hi0 hz0 hz1' hz2' rfl (by omega) _ (m'.length + 1) (flatE RE (m' ++ [r])) (by rfl) (pw_own_below hoN (by (repeat (first | (with_reducible exact Below.refl _ _) | ((with_reducible refine Below.alloc ?_ ?hB _); (case hB => (first | omega | (simp; done) | (simp; omega)))) | ((with_reducible refine Below.setCell ?_ ?hB _); (case hB => (first | omega | (simp; done) | (simp; omega)))) | (with_reducible refine Below.drew ?_) | ((with_reducible refine below_ext_of ?_ ?hB); (case hB => (first | omega | (simp; done) | (simp; omega)))) | ((with_reducible refine Below.trans ?_ (Below.mono (by assumption) ?hB)); (case hB => (first | omega | (simp; done) | (simp; omega)))))))) ⟨(w6).heap.size, 0, none⟩ 1 1 [.int .i64 ((⟨x, y0, x', y1⟩ : R)).x0, .int .i64 ((⟨x, y0, x', y1⟩ : R)).y0, .int .i64 ((⟨x, y0, x', y1⟩ : R)).x1, .int .i64 ((⟨x, y0, x', y1⟩ : R)).y1] (by rfl) (by rfl) (World.news_of_block (cs := #[.int .i64 ((⟨x, y0, x', y1⟩ : R)).x0, .int .i64 ((⟨x, y0, x', y1⟩ : R)).y0, .int .i64 ((⟨x, y0, x', y1⟩ : R)).x1, .int .i64 ((⟨x, y0, x', y1⟩ : R)).y1]) (t := 26) (fr := (0, 0)) (heap_alloc_new (w6).drew _)) (by simp [Value.oneCell']) (by omega) (by simp only [maxLen]; omega) (by omega) (by simp; omega) ((w6).heap.size + 1) (by simp) ?_; intro gg gcap w8 ho8 hgrow hat hlt')))
            have hb8 : Below w3.heap.size w3 w8 := Below.grown (show Below w3.heap.size w3 _ from by (repeat (first | (with_reducible exact Below.refl _ _) | ((with_reducible refine Below.alloc ?_ ?hB _); (case hB => (first | omega | (simp; done) | (simp; omega)))) | ((with_reducible refine Below.setCell ?_ ?hB _); (case hB => (first | omega | (simp; done) | (simp; omega)))) | (with_reducible refine Below.drew ?_) | ((with_reducible refine below_ext_of ?_ ?hB); (case hB => (first | omega | (simp; done) | (simp; omega)))) | ((with_reducible refine Below.trans ?_ (Below.mono (by assumption) ?hB)); (case hB => (first | omega | (simp; done) | (simp; omega))))))) hgrow (by simp; omega) (fun k h => (World.ownsRow.lt ho2.out k h).1)
            go_wp2
            go_roundw
            case rel => exact ⟨k + 1, by omega, by go_num, hb8, Lib.hid (by rw [hS.out, bandS_more _ _ _ _ _ _ hrx1]; exact OwnG.snoc (E := RE) (l := m' ++ [r]) (x := ⟨x, y0, x', y1⟩) (by rw [List.length_append]; exact ho8))⟩
            case measure => simp [intOf]; omega
    · obtain rfl : k = N := by omega
      have hkz : ¬ ((k : Int) < k) := by omega
      go_wp2
      go_ret
      rw [HZ.out, hN.out]
      exact ⟨_, rfl, OwnG.mono ho2.out hz3', hbw3.out.trans (hb2.mono hz3')⟩
end Go.Proofs.YtbkhcdmmnlkhdaaGreat
