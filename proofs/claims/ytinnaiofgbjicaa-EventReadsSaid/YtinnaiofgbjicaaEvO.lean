/- The document's events of bytes, walked. -/
import Derived.Test.YtinnaiofgbjicaaEvL
import Derived.Test.YtinnaiofgbjicaaEvMc
import Derived.Deep.RegionHeld3
import Derived.Test.YtinnaiofgbjicaaArgX
namespace Go.Proofs.Ytinnaiofgbjicaa
open Go.RowKit Go.Proofs.YtinnaiofgbjicaaW.PrintWords
set_option linter.unusedSimpArgs false
set_option linter.unusedVariables false
set_option maxRecDepth 1000000
/-- Unpacked numbers, in a row of the call's own. -/
def UnN (w : World) (i : Int) (l : List V8) (e : Ending) (w' : World) : Prop := ∃ A c, e = .returned (.tuple #[.slice A l.length c, .int .i64 i]) ∧ l.length ≤ c ∧
  (∀ j, j < l.length → ∃ g, A = some ⟨g, 0, none⟩ ∧ w.heap.size ≤ g ∧ g < w'.heap.size ∧ w'.cell? ⟨g, j * 8 + 1, none⟩ = some (.int .i64 (at8 l j).n)) ∧ Below w.heap.size w w'
theorem ref_UnpackN (f : ByteArray) (A : Option Addr) (b : List Int) (c : Nat) (w : World) (hz : f.size ≤ 140737488351232) (hs : BS w A b c) (hn : b.length ≤ 1000000) (i : Int) (l : List V8) (hu : unpackP f b = (i, l)) : Calls Try.prog 27 #[.string f, .slice A b.length c] w (UnN w i l) := by
  refine (ref_Unpack f A b c w hz hs.byt hn hs.le hs.nil hs.rd).mono fun e w' ⟨v, he, ⟨L, h0, h1, h2⟩, hb⟩ => ?_
  rw [hu] at he h0
  simp only at he h0
  subst h0
  obtain ⟨A', c', rfl⟩ := own_slice h1
  refine ⟨A', c', by rw [he]; simp, by have := own_le h1; simpa using this, fun j hj => ?_, hb⟩
  have hj' : j < L.length := by simpa using hj
  obtain ⟨g, cap, e, _⟩ := h1.form (by omega)
  injection e with e1 e2 e3
  subst e1
  have hx : at8 (L.map (·.x)) j = L[j].x := by unfold at8; rw [List.getD_eq_getElem?_getD, List.getElem?_eq_getElem (by simpa using hj')]; simp
  have key : ∀ i u, i < 8 → (L[j].cells)[i]? = some u → w'.cell? ⟨g, j * 8 + i, none⟩ = some u := fun i u hi hu => by
    have := h1.cells (g := g) rfl (j * 8 + i) u (by rw [flatV_get L j i hj' hi]; exact hu)
    rwa [add_p] at this
  have hlt := World.ownsRow.lt h1 g rfl
  rw [hx]
  exact ⟨g, rfl, hlt.1, hlt.2, key 1 _ (by omega) rfl⟩
theorem oneE_not {m : M3} (h : isE (m.op - 128) = false) : oneE m.op m.id m.b = (12, e0) := by unfold oneE; rw [if_neg (by rw [h]; decide)]
theorem oneE_err {m : M3} {i : Int} {l : List V8} (h : isE (m.op - 128) = true) (hu : unpackP (formE (m.op - 128)) m.b = (i, l)) (h0 : ¬ i = 0) : oneE m.op m.id m.b = (i, e0) := by
  unfold oneE; rw [if_pos h, hu]; simp only; rw [if_neg h0]
theorem oneE_no {m : M3} {l : List V8} {a0 a1 : Int} (h : isE (m.op - 128) = true) (hu : unpackP (formE (m.op - 128)) m.b = (0, l)) (e0' : anyInt (at8 l 0) = a0) (e1 : anyInt (at8 l 1) = a1) (hm : mayE ⟨m.op - 128, m.id, a0, a1⟩ = false) : oneE m.op m.id m.b = (4, e0) := by
  unfold oneE; rw [if_pos h, hu]; simp only; rw [if_pos trivial, e0', e1, if_neg (by rw [hm]; decide)]
theorem oneE_yes {m : M3} {l : List V8} {a0 a1 : Int} (h : isE (m.op - 128) = true) (hu : unpackP (formE (m.op - 128)) m.b = (0, l)) (e0' : anyInt (at8 l 0) = a0) (e1 : anyInt (at8 l 1) = a1) (hm : mayE ⟨m.op - 128, m.id, a0, a1⟩ = true) : oneE m.op m.id m.b = (0, ⟨m.op - 128, m.id, a0, a1⟩) := by
  unfold oneE; rw [if_pos h, hu]; simp only; rw [if_pos trivial, e0', e1, if_pos hm]
set_option maxHeartbeats 4000000 in
theorem ref_ReadEv (A : Option Addr) (b : List Int) (c : Nat) (w : World) (hs : BS w A b c) (hn : b.length ≤ 1000000) : Calls Try.prog 18 #[.slice A b.length c] w (RdE w 25 (readE b)) := by
  rcases hsp : splitP b with ⟨L, n, er⟩
  have HSP := Lib.hid hsp
  have cS : Calls Try.prog 26 #[.slice A b.length c] w (fun e w' => ∃ v, e = .returned (.tuple #[v, .int .i64 n, .int .i64 er]) ∧ OwnM w' w.heap.size v L ∧ Below w.heap.size w w') := by
    have := ref_Split A b c w hs hn
    rw [hsp] at this; exact this
  have hms := splitP_msgs b hs.byt
  rw [hsp] at hms
  have her : er = 0 ∨ er = 2 ∨ er = 3 := by have := splitP_err b; rw [hsp] at this; exact this
  have hLn : L.length ≤ 1000000 := by have := hms.1; simp only at this; omega
  have HMS := Lib.hid hms.2
  clear hsp hs hms
  go_enter Try.func18, Try.ntmps18
  go_wp2_with (first | (go_at_call 26; (with_reducible refine cS.mono ?_); rintro en w1 ⟨v1, rfl, ho1, hb1⟩; obtain ⟨A1, c1, rfl, hlc1, hr1⟩ := ho1.row; clear ho1; have hz1 := hb1.size; replace hr1 := Lib.hid hr1))
  go_loopw [7, 8] (fun v i wr => ∃ (k : Nat) (l : List E4), k ≤ L.length ∧ i = .int .i64 k ∧ evsFrom L k = .inr l ∧ l.length = k ∧ Below w1.heap.size w1 wr ∧ OwnE wr w1.heap.size 25 v l) (fun _ i _ => L.length - (intOf i).toNat)
  case atStart => exact ⟨0, [], by omega, rfl, rfl, rfl, Below.refl _ _, OwnE.nil _ _ _⟩
  case round =>
    obtain ⟨k, l, hk, rfl, hu, hll, hbr, hown⟩ := hrel
    have hzr := hbr.size
    have HUU := Lib.hid hu
    have HB1 := Lib.hid hb1
    have HBR := Lib.hid hbr
    clear hu
    by_cases hlt : k < L.length
    · obtain ⟨ad, Ab, cb, rfl, f0, f1, f2, hbs⟩ := hr1.out k hlt
      have q0 := pw_cell_below hbr f0; have q1 := pw_cell_below hbr f1; have q2 := pw_cell_below hbr f2
      have hmk := HMS.out _ (atM_mem hlt)
      rw [← atM_get hlt] at q0 q1 q2 hbs
      have hYES := fun (i : Int) (e : E4) (h : oneE (atM L k).op (atM L k).id (atM L k).b = (i, e)) (h0 : ¬ i = 0) => readE_inl HSP.out (show k + 1 ≤ L.length by omega) (evsFrom_no HUU.out h h0)
      have hNO := fun (e : E4) (h : oneE (atM L k).op (atM L k).id (atM L k).b = (0, e)) => evsFrom_yes HUU.out h
      have HYES := Lib.hid hYES
      have HNO := Lib.hid hNO
      clear f0 f1 f2 hYES hNO
      have hlo := lt_of_cell q0
      generalize atM L k = m at *
      have Q0 := fun x => pw_cell_below (below_ext wr x) q0; have Q1 := fun x => pw_cell_below (below_ext wr x) q1; have Q2 := fun x => pw_cell_below (below_ext wr x) q2
      obtain ⟨p1, p2, p3, p4, p5, p6⟩ := hmk
      have hw : IntKind.i64.wrap (m.op - 128) = m.op - 128 := by rw [IntKind.wrap_i64]; omega
      have H6 := Lib.hid p6
      clear p6
      cases hi : isE (m.op - 128)
      · have HE := Lib.hid (HYES.out _ _ (oneE_not hi) (by decide))
        have hi' := of_decide_eq_false hi
        clear hi
        by_cases hk0 : m.op - 128 < 0
        · go_wp2_with fail
          (go_region_held3 (fun w' => w'.cell? (ad.add (k * 3)) = some (.int .i64 m.op) ∧ w'.cell? ⟨(ad.add (k * 3)).block, (ad.add (k * 3)).off + 1, none⟩ = some (.int .i64 m.id)) (first | go_keep) (fail))
          go_wp2
          go_ret2
          exact RdE.err HE.out (HB1.out.trans (Below.mono (HBR.out.trans (Below.mono (show Below wr.heap.size wr _ from by (repeat (first | (with_reducible exact Below.refl _ _) | ((with_reducible refine Below.alloc ?_ ?hB _); (case hB => (first | omega | (simp; done) | (simp; omega)))) | ((with_reducible refine Below.setCell ?_ ?hB _); (case hB => (first | omega | (simp; done) | (simp; omega)))) | (with_reducible refine Below.drew ?_) | ((with_reducible refine below_ext_of ?_ ?hB); (case hB => (first | omega | (simp; done) | (simp; omega)))) | ((with_reducible refine Below.trans ?_ (Below.mono (by assumption) ?hB)); (case hB => (first | omega | (simp; done) | (simp; omega))))))) hzr)) hz1))
        · have hk5 : 5 < m.op - 128 := by omega
          go_wp2_with fail
          (go_region_held3 (fun w' => w'.cell? (ad.add (k * 3)) = some (.int .i64 m.op) ∧ w'.cell? ⟨(ad.add (k * 3)).block, (ad.add (k * 3)).off + 1, none⟩ = some (.int .i64 m.id)) (first | go_keep) (fail))
          go_wp2
          go_ret2
          exact RdE.err HE.out (HB1.out.trans (Below.mono (HBR.out.trans (Below.mono (show Below wr.heap.size wr _ from by (repeat (first | (with_reducible exact Below.refl _ _) | ((with_reducible refine Below.alloc ?_ ?hB _); (case hB => (first | omega | (simp; done) | (simp; omega)))) | ((with_reducible refine Below.setCell ?_ ?hB _); (case hB => (first | omega | (simp; done) | (simp; omega)))) | (with_reducible refine Below.drew ?_) | ((with_reducible refine below_ext_of ?_ ?hB); (case hB => (first | omega | (simp; done) | (simp; omega)))) | ((with_reducible refine Below.trans ?_ (Below.mono (by assumption) ?hB)); (case hB => (first | omega | (simp; done) | (simp; omega))))))) hzr)) hz1))
      · obtain ⟨hk0, hk5⟩ : 0 ≤ m.op - 128 ∧ m.op - 128 ≤ 5 := of_decide_eq_true hi
        rcases hun : unpackP (formE (m.op - 128)) m.b with ⟨ie, le⟩
        have cf := fun w => ref_formE (m.op - 128) w ⟨hk0, hk5⟩
        have cU := fun w' (hb : Below w1.heap.size w1 w') => ref_UnpackN (formE (m.op - 128)) Ab m.b cb w' (formE_small _) (hbs.below hb) p5 ie le hun
        unfold UnN at cU
        by_cases h0 : ie = 0
        · subst h0
          have hints := unp_ints H6.out hun
          have hfl := formE_len (m.op - 128)
          have hbd := fun i => anyInt_bd hints.2 i
          have hl3 : le.length = 0 ∨ le.length = 1 ∨ le.length = 2 := by have := hints.1; omega
          have HNY := Lib.hid (fun (a0 a1 : Int) (x0 : anyInt (at8 le 0) = a0) (x1 : anyInt (at8 le 1) = a1) (hm : mayE ⟨m.op - 128, m.id, a0, a1⟩ = false) => HYES.out _ _ (oneE_no hi hun x0 x1 hm) (by decide))
          have HYY := Lib.hid (fun (a0 a1 : Int) (x0 : anyInt (at8 le 0) = a0) (x1 : anyInt (at8 le 1) = a1) (hm : mayE ⟨m.op - 128, m.id, a0, a1⟩ = true) => HNO.out _ (oneE_yes hi hun x0 x1 hm))
          clear hi hun hints hfl HYES HNO
          generalize formE (m.op - 128) = f at *
          generalize hkk : m.op - 128 = kk at *
          have HBD := Lib.hid hbd
          clear hbd
          have hl6 : l.length ≤ 1000000 := by omega
          rcases hl3 with hn | hn | hn
          · rw [hn] at cU
            have x0 : anyInt (at8 le 0) = 0 := by rw [at8_out le 0 (by omega)]; rfl
            have x1 : anyInt (at8 le 1) = 0 := by rw [at8_out le 1 (by omega)]; rfl
            have HN := Lib.hid hn
            clear hn
            (have HX := Lib.hid (And.intro x0 x1); clear x0 x1; cases hm : mayE ⟨kk, m.id, 0, 0⟩ <;> (have cM := fun w => ref_MayE ⟨kk, m.id, 0, 0⟩ w ⟨(by simp only; omega), (by simp only; omega), (by simp only; omega), (by simp only; omega)⟩; rw [hm] at cM; have HM := Lib.hid hm; clear hm; go_wp2_with fail; (go_region_held3 (fun w' => w'.cell? (ad.add (k * 3)) = some (.int .i64 m.op) ∧ w'.cell? ⟨(ad.add (k * 3)).block, (ad.add (k * 3)).off + 1, none⟩ = some (.int .i64 m.id)) (first | go_keep) (fail)); go_wp2_with fail; (go_region_held3 (fun w' => w'.cell? ⟨wr.heap.size, 0, none⟩ = some (.int .i64 kk) ∧ w'.cell? ⟨(ad.add (k * 3)).block, (ad.add (k * 3)).off + 2, none⟩ = some (.slice Ab m.b.length cb)) (first | go_keep | (go_split_ands; refine ⟨?_, ?_⟩ <;> first | exact pw_cell_below hb5 (by assumption) | exact pw_cell_below hb3 (by assumption) | go_keep)) (first | (go_at_call 19; (with_reducible refine (cf _).mono ?_); rintro en w3 ⟨rfl, hb3⟩; have hz3 := hb3.size; (try simp only [World.size_alloc, World.size_setCell, World.size_drew] at hz3)) | (go_at_call 27; (with_reducible refine (cU _ ?_).mono ?_); (focus ((repeat (first | (with_reducible exact Below.refl _ _) | ((with_reducible refine Below.alloc ?_ ?hB _); (case hB => (first | omega | (simp; done) | (simp; omega)))) | ((with_reducible refine Below.setCell ?_ ?hB _); (case hB => (first | omega | (simp; done) | (simp; omega)))) | (with_reducible refine Below.drew ?_) | ((with_reducible refine below_ext_of ?_ ?hB); (case hB => (first | omega | (simp; done) | (simp; omega)))) | ((with_reducible refine Below.trans ?_ (Below.mono (by assumption) ?hB)); (case hB => (first | omega | (simp; done) | (simp; omega)))))); done)); rintro en w5 ⟨A5, c5, rfl, hcc5, hr5, hb5⟩; have hz5 := hb5.size; replace hr5 := Lib.hid hr5; (try simp only [World.size_alloc, World.size_setCell, World.size_drew] at hz5)))); (have B0 : ((wr.alloc (.cells #[.int .i64 kk, .int .i64 m.id, .int .i64 0, .int .i64 0] 25)).drew.drew).heap[wr.heap.size]? = some (.cells #[.int .i64 kk, .int .i64 m.id, .int .i64 0, .int .i64 0] 25 (0, 0)) := blk_new wr (.cells #[.int .i64 kk, .int .i64 m.id, .int .i64 0, .int .i64 0] 25); have B5 := Lib.hid (blk_belowB (blk_belowB B0 hb3 (by simp)) hb5 (by omega)); clear B0; have k0 := (blk_cell B5.out 0).trans rfl; have k1 := (blk_cell B5.out 1).trans rfl; have k2 := (blk_cell B5.out 2).trans rfl; have k3 := (blk_cell B5.out 3).trans rfl; have fz2 := blk_frozen B5.out 2; have fz3 := blk_frozen B5.out 3; have hsz5 : wr.heap.size < w5.heap.size := (by omega)); skip; go_wp2_with (first | (go_at_call 11; (with_reducible refine (cM _).mono ?_); rintro en w6 ⟨rfl, hb6⟩; obtain ⟨hc6, hf6⟩ := bcell hb6; have hz6 := hb6.size; (try simp only [World.size_alloc, World.size_setCell, World.size_drew] at hz6)) | (at_builtin; refine print_append_cells (w0 := w1) (w1.heap.size) rfl _ _ 22 25 _ 4 32 rfl (Try.underlying22) info_ee rfl (by decide) (by decide) _ _ _ [.int .i64 ((E4.mk kk m.id 0 0)).k, .int .i64 ((E4.mk kk m.id 0 0)).id, .int .i64 ((E4.mk kk m.id 0 0)).a, .int .i64 ((E4.mk kk m.id 0 0)).b] rfl ?_ rfl ?_ (OwnE.below hown ?_) ?_ ?_ ?_ ?_; (focus (go_simp; done)); (focus (simp [Value.oneCell']; done)); (focus ((repeat (first | (with_reducible exact Below.refl _ _) | ((with_reducible refine Below.alloc ?_ ?hB _); (case hB => (first | omega | (simp; done) | (simp; omega)))) | ((with_reducible refine Below.setCell ?_ ?hB _); (case hB => (first | omega | (simp; done) | (simp; omega)))) | (with_reducible refine Below.drew ?_) | ((with_reducible refine below_ext_of ?_ ?hB); (case hB => (first | omega | (simp; done) | (simp; omega)))) | ((with_reducible refine Below.trans ?_ (Below.mono (by assumption) ?hB)); (case hB => (first | omega | (simp; done) | (simp; omega)))))); done)); (focus ((repeat (first | (with_reducible exact Below.refl _ _) | ((with_reducible refine Below.alloc ?_ ?hB _); (case hB => (first | omega | (simp; done) | (simp; omega)))) | ((with_reducible refine Below.setCell ?_ ?hB _); (case hB => (first | omega | (simp; done) | (simp; omega)))) | (with_reducible refine Below.drew ?_) | ((with_reducible refine below_ext_of ?_ ?hB); (case hB => (first | omega | (simp; done) | (simp; omega)))) | ((with_reducible refine Below.trans ?_ (Below.mono (by assumption) ?hB)); (case hB => (first | omega | (simp; done) | (simp; omega)))))); done)); (focus ((first | omega | (simp; done) | (simp; omega)); done)); (focus omega); intro v7 w7 hown7 hb7 _ _; have hz7 := hb7.size; (try simp only [World.size_alloc, World.size_setCell, World.size_drew] at hz7))); first | (go_ret2; exact RdE.err (HNY.out _ _ HX.out.1 HX.out.2 HM.out) (HB1.out.trans (Below.mono (HBR.out.trans (Below.mono (show Below wr.heap.size wr _ from by (repeat (first | (with_reducible exact Below.refl _ _) | ((with_reducible refine Below.alloc ?_ ?hB _); (case hB => (first | omega | (simp; done) | (simp; omega)))) | ((with_reducible refine Below.setCell ?_ ?hB _); (case hB => (first | omega | (simp; done) | (simp; omega)))) | (with_reducible refine Below.drew ?_) | ((with_reducible refine below_ext_of ?_ ?hB); (case hB => (first | omega | (simp; done) | (simp; omega)))) | ((with_reducible refine Below.trans ?_ (Below.mono (by assumption) ?hB)); (case hB => (first | omega | (simp; done) | (simp; omega))))))) hzr)) hz1))) | (go_roundw; (case rel => exact ⟨k + 1, l ++ [⟨kk, m.id, 0, 0⟩], by omega, by go_num, HYY.out _ _ HX.out.1 HX.out.2 HM.out, by simp; omega, hb7, OwnE.snoc hown7⟩); (case measure => (simp [intOf]; omega)))))
          · rw [hn] at cU
            obtain ⟨a0, x0⟩ : ∃ a, anyInt (at8 le 0) = a := ⟨_, rfl⟩
            have x1 : anyInt (at8 le 1) = 0 := by rw [at8_out le 1 (by omega)]; rfl
            have y0 := HBD.out 0
            rw [x0] at y0
            obtain ⟨ya0, yb0, yc0⟩ := y0
            replace yc0 := Lib.hid yc0
            have HN := Lib.hid hn
            clear hn
            (have HX := Lib.hid (And.intro x0 x1); clear x0 x1; cases hm : mayE ⟨kk, m.id, a0, 0⟩ <;> (have cM := fun w => ref_MayE ⟨kk, m.id, a0, 0⟩ w ⟨(by simp only; omega), (by simp only; omega), (by simp only; omega), (by simp only; omega)⟩; rw [hm] at cM; have HM := Lib.hid hm; clear hm; go_wp2_with fail; (go_region_held3 (fun w' => w'.cell? (ad.add (k * 3)) = some (.int .i64 m.op) ∧ w'.cell? ⟨(ad.add (k * 3)).block, (ad.add (k * 3)).off + 1, none⟩ = some (.int .i64 m.id)) (first | go_keep) (fail)); go_wp2_with fail; (go_region_held3 (fun w' => w'.cell? ⟨wr.heap.size, 0, none⟩ = some (.int .i64 kk) ∧ w'.cell? ⟨(ad.add (k * 3)).block, (ad.add (k * 3)).off + 2, none⟩ = some (.slice Ab m.b.length cb)) (first | go_keep | (go_split_ands; refine ⟨?_, ?_⟩ <;> first | exact pw_cell_below hb5 (by assumption) | exact pw_cell_below hb3 (by assumption) | go_keep)) (first | (go_at_call 19; (with_reducible refine (cf _).mono ?_); rintro en w3 ⟨rfl, hb3⟩; have hz3 := hb3.size; (try simp only [World.size_alloc, World.size_setCell, World.size_drew] at hz3)) | (go_at_call 27; (with_reducible refine (cU _ ?_).mono ?_); (focus ((repeat (first | (with_reducible exact Below.refl _ _) | ((with_reducible refine Below.alloc ?_ ?hB _); (case hB => (first | omega | (simp; done) | (simp; omega)))) | ((with_reducible refine Below.setCell ?_ ?hB _); (case hB => (first | omega | (simp; done) | (simp; omega)))) | (with_reducible refine Below.drew ?_) | ((with_reducible refine below_ext_of ?_ ?hB); (case hB => (first | omega | (simp; done) | (simp; omega)))) | ((with_reducible refine Below.trans ?_ (Below.mono (by assumption) ?hB)); (case hB => (first | omega | (simp; done) | (simp; omega)))))); done)); rintro en w5 ⟨A5, c5, rfl, hcc5, hr5, hb5⟩; have hz5 := hb5.size; replace hr5 := Lib.hid hr5; (try simp only [World.size_alloc, World.size_setCell, World.size_drew] at hz5)))); (have B0 : ((wr.alloc (.cells #[.int .i64 kk, .int .i64 m.id, .int .i64 0, .int .i64 0] 25)).drew.drew).heap[wr.heap.size]? = some (.cells #[.int .i64 kk, .int .i64 m.id, .int .i64 0, .int .i64 0] 25 (0, 0)) := blk_new wr (.cells #[.int .i64 kk, .int .i64 m.id, .int .i64 0, .int .i64 0] 25); have B5 := Lib.hid (blk_belowB (blk_belowB B0 hb3 (by simp)) hb5 (by omega)); clear B0; have k0 := (blk_cell B5.out 0).trans rfl; have k1 := (blk_cell B5.out 1).trans rfl; have k2 := (blk_cell B5.out 2).trans rfl; have k3 := (blk_cell B5.out 3).trans rfl; have fz2 := blk_frozen B5.out 2; have fz3 := blk_frozen B5.out 3; have hsz5 : wr.heap.size < w5.heap.size := (by omega)); (obtain ⟨g, rfl, hg1, hg2, c0⟩ := hr5.out 0 (by have := HN.out; omega); replace c0 : w5.cell? ⟨g, 1, none⟩ = some (.int .i64 a0) := (by rw [yc0.out]; exact c0); have hgne : g ≠ wr.heap.size := (by omega)); go_wp2_with (first | (go_at_call 11; (with_reducible refine (cM _).mono ?_); rintro en w6 ⟨rfl, hb6⟩; obtain ⟨hc6, hf6⟩ := bcell hb6; have hz6 := hb6.size; (try simp only [World.size_alloc, World.size_setCell, World.size_drew] at hz6)) | (at_builtin; refine print_append_cells (w0 := w1) (w1.heap.size) rfl _ _ 22 25 _ 4 32 rfl (Try.underlying22) info_ee rfl (by decide) (by decide) _ _ _ [.int .i64 ((E4.mk kk m.id a0 0)).k, .int .i64 ((E4.mk kk m.id a0 0)).id, .int .i64 ((E4.mk kk m.id a0 0)).a, .int .i64 ((E4.mk kk m.id a0 0)).b] rfl ?_ rfl ?_ (OwnE.below hown ?_) ?_ ?_ ?_ ?_; (focus (go_simp; done)); (focus (simp [Value.oneCell']; done)); (focus ((repeat (first | (with_reducible exact Below.refl _ _) | ((with_reducible refine Below.alloc ?_ ?hB _); (case hB => (first | omega | (simp; done) | (simp; omega)))) | ((with_reducible refine Below.setCell ?_ ?hB _); (case hB => (first | omega | (simp; done) | (simp; omega)))) | (with_reducible refine Below.drew ?_) | ((with_reducible refine below_ext_of ?_ ?hB); (case hB => (first | omega | (simp; done) | (simp; omega)))) | ((with_reducible refine Below.trans ?_ (Below.mono (by assumption) ?hB)); (case hB => (first | omega | (simp; done) | (simp; omega)))))); done)); (focus ((repeat (first | (with_reducible exact Below.refl _ _) | ((with_reducible refine Below.alloc ?_ ?hB _); (case hB => (first | omega | (simp; done) | (simp; omega)))) | ((with_reducible refine Below.setCell ?_ ?hB _); (case hB => (first | omega | (simp; done) | (simp; omega)))) | (with_reducible refine Below.drew ?_) | ((with_reducible refine below_ext_of ?_ ?hB); (case hB => (first | omega | (simp; done) | (simp; omega)))) | ((with_reducible refine Below.trans ?_ (Below.mono (by assumption) ?hB)); (case hB => (first | omega | (simp; done) | (simp; omega)))))); done)); (focus ((first | omega | (simp; done) | (simp; omega)); done)); (focus omega); intro v7 w7 hown7 hb7 _ _; have hz7 := hb7.size; (try simp only [World.size_alloc, World.size_setCell, World.size_drew] at hz7))); first | (go_ret2; exact RdE.err (HNY.out _ _ HX.out.1 HX.out.2 HM.out) (HB1.out.trans (Below.mono (HBR.out.trans (Below.mono (show Below wr.heap.size wr _ from by (repeat (first | (with_reducible exact Below.refl _ _) | ((with_reducible refine Below.alloc ?_ ?hB _); (case hB => (first | omega | (simp; done) | (simp; omega)))) | ((with_reducible refine Below.setCell ?_ ?hB _); (case hB => (first | omega | (simp; done) | (simp; omega)))) | (with_reducible refine Below.drew ?_) | ((with_reducible refine below_ext_of ?_ ?hB); (case hB => (first | omega | (simp; done) | (simp; omega)))) | ((with_reducible refine Below.trans ?_ (Below.mono (by assumption) ?hB)); (case hB => (first | omega | (simp; done) | (simp; omega))))))) hzr)) hz1))) | (go_roundw; (case rel => exact ⟨k + 1, l ++ [⟨kk, m.id, a0, 0⟩], by omega, by go_num, HYY.out _ _ HX.out.1 HX.out.2 HM.out, by simp; omega, hb7, OwnE.snoc hown7⟩); (case measure => (simp [intOf]; omega)))))
          · rw [hn] at cU
            obtain ⟨a0, x0⟩ : ∃ a, anyInt (at8 le 0) = a := ⟨_, rfl⟩
            obtain ⟨a1, x1⟩ : ∃ a, anyInt (at8 le 1) = a := ⟨_, rfl⟩
            have y0 := HBD.out 0
            rw [x0] at y0
            obtain ⟨ya0, yb0, yc0⟩ := y0
            replace yc0 := Lib.hid yc0
            have y1 := HBD.out 1
            rw [x1] at y1
            obtain ⟨ya1, yb1, yc1⟩ := y1
            replace yc1 := Lib.hid yc1
            have HN := Lib.hid hn
            clear hn
            (have HX := Lib.hid (And.intro x0 x1); clear x0 x1; cases hm : mayE ⟨kk, m.id, a0, a1⟩ <;> (have cM := fun w => ref_MayE ⟨kk, m.id, a0, a1⟩ w ⟨(by simp only; omega), (by simp only; omega), (by simp only; omega), (by simp only; omega)⟩; rw [hm] at cM; have HM := Lib.hid hm; clear hm; go_wp2_with fail; (go_region_held3 (fun w' => w'.cell? (ad.add (k * 3)) = some (.int .i64 m.op) ∧ w'.cell? ⟨(ad.add (k * 3)).block, (ad.add (k * 3)).off + 1, none⟩ = some (.int .i64 m.id)) (first | go_keep) (fail)); go_wp2_with fail; (go_region_held3 (fun w' => w'.cell? ⟨wr.heap.size, 0, none⟩ = some (.int .i64 kk) ∧ w'.cell? ⟨(ad.add (k * 3)).block, (ad.add (k * 3)).off + 2, none⟩ = some (.slice Ab m.b.length cb)) (first | go_keep | (go_split_ands; refine ⟨?_, ?_⟩ <;> first | exact pw_cell_below hb5 (by assumption) | exact pw_cell_below hb3 (by assumption) | go_keep)) (first | (go_at_call 19; (with_reducible refine (cf _).mono ?_); rintro en w3 ⟨rfl, hb3⟩; have hz3 := hb3.size; (try simp only [World.size_alloc, World.size_setCell, World.size_drew] at hz3)) | (go_at_call 27; (with_reducible refine (cU _ ?_).mono ?_); (focus ((repeat (first | (with_reducible exact Below.refl _ _) | ((with_reducible refine Below.alloc ?_ ?hB _); (case hB => (first | omega | (simp; done) | (simp; omega)))) | ((with_reducible refine Below.setCell ?_ ?hB _); (case hB => (first | omega | (simp; done) | (simp; omega)))) | (with_reducible refine Below.drew ?_) | ((with_reducible refine below_ext_of ?_ ?hB); (case hB => (first | omega | (simp; done) | (simp; omega)))) | ((with_reducible refine Below.trans ?_ (Below.mono (by assumption) ?hB)); (case hB => (first | omega | (simp; done) | (simp; omega)))))); done)); rintro en w5 ⟨A5, c5, rfl, hcc5, hr5, hb5⟩; have hz5 := hb5.size; replace hr5 := Lib.hid hr5; (try simp only [World.size_alloc, World.size_setCell, World.size_drew] at hz5)))); (have B0 : ((wr.alloc (.cells #[.int .i64 kk, .int .i64 m.id, .int .i64 0, .int .i64 0] 25)).drew.drew).heap[wr.heap.size]? = some (.cells #[.int .i64 kk, .int .i64 m.id, .int .i64 0, .int .i64 0] 25 (0, 0)) := blk_new wr (.cells #[.int .i64 kk, .int .i64 m.id, .int .i64 0, .int .i64 0] 25); have B5 := Lib.hid (blk_belowB (blk_belowB B0 hb3 (by simp)) hb5 (by omega)); clear B0; have k0 := (blk_cell B5.out 0).trans rfl; have k1 := (blk_cell B5.out 1).trans rfl; have k2 := (blk_cell B5.out 2).trans rfl; have k3 := (blk_cell B5.out 3).trans rfl; have fz2 := blk_frozen B5.out 2; have fz3 := blk_frozen B5.out 3; have hsz5 : wr.heap.size < w5.heap.size := (by omega)); ((obtain ⟨g, rfl, hg1, hg2, c0⟩ := hr5.out 0 (by have := HN.out; omega); replace c0 : w5.cell? ⟨g, 1, none⟩ = some (.int .i64 a0) := (by rw [yc0.out]; exact c0); have hgne : g ≠ wr.heap.size := (by omega)); (obtain ⟨g', eg, hg1', hg2', c1⟩ := hr5.out 1 (by have := HN.out; omega); injection eg with eg; injection eg with eg _; subst eg; replace c1 : w5.cell? ⟨g, 9, none⟩ = some (.int .i64 a1) := (by rw [yc1.out]; exact c1); clear hg1' hg2')); go_wp2_with (first | (go_at_call 11; (with_reducible refine (cM _).mono ?_); rintro en w6 ⟨rfl, hb6⟩; obtain ⟨hc6, hf6⟩ := bcell hb6; have hz6 := hb6.size; (try simp only [World.size_alloc, World.size_setCell, World.size_drew] at hz6)) | (at_builtin; refine print_append_cells (w0 := w1) (w1.heap.size) rfl _ _ 22 25 _ 4 32 rfl (Try.underlying22) info_ee rfl (by decide) (by decide) _ _ _ [.int .i64 ((E4.mk kk m.id a0 a1)).k, .int .i64 ((E4.mk kk m.id a0 a1)).id, .int .i64 ((E4.mk kk m.id a0 a1)).a, .int .i64 ((E4.mk kk m.id a0 a1)).b] rfl ?_ rfl ?_ (OwnE.below hown ?_) ?_ ?_ ?_ ?_; (focus (go_simp; done)); (focus (simp [Value.oneCell']; done)); (focus ((repeat (first | (with_reducible exact Below.refl _ _) | ((with_reducible refine Below.alloc ?_ ?hB _); (case hB => (first | omega | (simp; done) | (simp; omega)))) | ((with_reducible refine Below.setCell ?_ ?hB _); (case hB => (first | omega | (simp; done) | (simp; omega)))) | (with_reducible refine Below.drew ?_) | ((with_reducible refine below_ext_of ?_ ?hB); (case hB => (first | omega | (simp; done) | (simp; omega)))) | ((with_reducible refine Below.trans ?_ (Below.mono (by assumption) ?hB)); (case hB => (first | omega | (simp; done) | (simp; omega)))))); done)); (focus ((repeat (first | (with_reducible exact Below.refl _ _) | ((with_reducible refine Below.alloc ?_ ?hB _); (case hB => (first | omega | (simp; done) | (simp; omega)))) | ((with_reducible refine Below.setCell ?_ ?hB _); (case hB => (first | omega | (simp; done) | (simp; omega)))) | (with_reducible refine Below.drew ?_) | ((with_reducible refine below_ext_of ?_ ?hB); (case hB => (first | omega | (simp; done) | (simp; omega)))) | ((with_reducible refine Below.trans ?_ (Below.mono (by assumption) ?hB)); (case hB => (first | omega | (simp; done) | (simp; omega)))))); done)); (focus ((first | omega | (simp; done) | (simp; omega)); done)); (focus omega); intro v7 w7 hown7 hb7 _ _; have hz7 := hb7.size; (try simp only [World.size_alloc, World.size_setCell, World.size_drew] at hz7))); first | (go_ret2; exact RdE.err (HNY.out _ _ HX.out.1 HX.out.2 HM.out) (HB1.out.trans (Below.mono (HBR.out.trans (Below.mono (show Below wr.heap.size wr _ from by (repeat (first | (with_reducible exact Below.refl _ _) | ((with_reducible refine Below.alloc ?_ ?hB _); (case hB => (first | omega | (simp; done) | (simp; omega)))) | ((with_reducible refine Below.setCell ?_ ?hB _); (case hB => (first | omega | (simp; done) | (simp; omega)))) | (with_reducible refine Below.drew ?_) | ((with_reducible refine below_ext_of ?_ ?hB); (case hB => (first | omega | (simp; done) | (simp; omega)))) | ((with_reducible refine Below.trans ?_ (Below.mono (by assumption) ?hB)); (case hB => (first | omega | (simp; done) | (simp; omega))))))) hzr)) hz1))) | (go_roundw; (case rel => exact ⟨k + 1, l ++ [⟨kk, m.id, a0, a1⟩], by omega, by go_num, HYY.out _ _ HX.out.1 HX.out.2 HM.out, by simp; omega, hb7, OwnE.snoc hown7⟩); (case measure => (simp [intOf]; omega)))))
        · have HE := Lib.hid (HYES.out _ _ (oneE_err hi hun h0) h0)
          have hi0 : (ie == 0) = false := by simp [h0]
          have hi1 : (ie != 0) = true := by simp [h0]
          clear hi hun HYES HNO
          generalize formE (m.op - 128) = f at *
          generalize hkk : m.op - 128 = kk at *
          go_wp2_with fail
          (go_region_held3 (fun w' => w'.cell? (ad.add (k * 3)) = some (.int .i64 m.op) ∧ w'.cell? ⟨(ad.add (k * 3)).block, (ad.add (k * 3)).off + 1, none⟩ = some (.int .i64 m.id)) (first | go_keep) (fail))
          go_wp2_with fail
          (go_region_held3 (fun w' => w'.cell? ⟨wr.heap.size, 0, none⟩ = some (.int .i64 kk) ∧ w'.cell? ⟨(ad.add (k * 3)).block, (ad.add (k * 3)).off + 2, none⟩ = some (.slice Ab m.b.length cb)) (first | go_keep | (go_split_ands; refine ⟨?_, ?_⟩ <;> first | exact pw_cell_below hb5 (by assumption) | exact pw_cell_below hb3 (by assumption) | go_keep)) (first | (go_at_call 19; (with_reducible refine (cf _).mono ?_); rintro en w3 ⟨rfl, hb3⟩; have hz3 := hb3.size; (try simp only [World.size_alloc, World.size_setCell, World.size_drew] at hz3)) | (go_at_call 27; (with_reducible refine (cU _ ?_).mono ?_); (focus ((repeat (first | (with_reducible exact Below.refl _ _) | ((with_reducible refine Below.alloc ?_ ?hB _); (case hB => (first | omega | (simp; done) | (simp; omega)))) | ((with_reducible refine Below.setCell ?_ ?hB _); (case hB => (first | omega | (simp; done) | (simp; omega)))) | (with_reducible refine Below.drew ?_) | ((with_reducible refine below_ext_of ?_ ?hB); (case hB => (first | omega | (simp; done) | (simp; omega)))) | ((with_reducible refine Below.trans ?_ (Below.mono (by assumption) ?hB)); (case hB => (first | omega | (simp; done) | (simp; omega)))))); done)); rintro en w5 ⟨A5, c5, rfl, hcc5, hr5, hb5⟩; have hz5 := hb5.size; replace hr5 := Lib.hid hr5; (try simp only [World.size_alloc, World.size_setCell, World.size_drew] at hz5))))
          go_wp2
          go_ret2
          exact RdE.err HE.out (HB1.out.trans (Below.mono (HBR.out.trans (Below.mono (show Below wr.heap.size wr _ from by (repeat (first | (with_reducible exact Below.refl _ _) | ((with_reducible refine Below.alloc ?_ ?hB _); (case hB => (first | omega | (simp; done) | (simp; omega)))) | ((with_reducible refine Below.setCell ?_ ?hB _); (case hB => (first | omega | (simp; done) | (simp; omega)))) | (with_reducible refine Below.drew ?_) | ((with_reducible refine below_ext_of ?_ ?hB); (case hB => (first | omega | (simp; done) | (simp; omega)))) | ((with_reducible refine Below.trans ?_ (Below.mono (by assumption) ?hB)); (case hB => (first | omega | (simp; done) | (simp; omega))))))) hzr)) hz1))
    · obtain rfl : k = L.length := by omega
      have HO := Lib.hid hown
      clear hown
      rcases her with rfl | rfl | rfl
      · go_wp2
        go_ret2
        exact RdE.mk (readE_ok HSP.out HUU.out) (HO.out.mono hz1) (HB1.out.trans (Below.mono HBR.out hz1))
      · go_wp2
        go_ret2
        exact RdE.err (readE_err HSP.out HUU.out (by decide)) (HB1.out.trans (Below.mono HBR.out hz1))
      · go_wp2
        go_ret2
        exact RdE.err (readE_err HSP.out HUU.out (by decide)) (HB1.out.trans (Below.mono HBR.out hz1))
end Go.Proofs.Ytinnaiofgbjicaa
