/- The document's bytes of events, walked. -/
import Derived.Test.YtinnaiofgbjicaaEvMc
import Derived.Deep.RegionHeld3
namespace Go.Proofs.Ytinnaiofgbjicaa
open Go.RowKit Go.Proofs.YtinnaiofgbjicaaW.PrintWords
set_option linter.unusedSimpArgs false
set_option linter.unusedVariables false
set_option maxRecDepth 1000000
theorem vrow_two (w : World) (a b : Int) (n : Nat) (hn : n ≤ 2) : VRow (w.alloc (.cells #[.int .i64 0, .int .i64 (a), .string { data := #[] }, .int .i64 0, .int .i64 0, .int .i64 0, .int .i64 0, .slice none 0 0, .int .i64 0, .int .i64 (b), .string { data := #[] }, .int .i64 0, .int .i64 0, .int .i64 0, .int .i64 0, .slice none 0 0] 57)) (some ⟨w.heap.size, 0, none⟩) ([vI a, vI b].take n) := by
  intro i hi
  have hi2 : i < n ∧ i < 2 := by simp at hi; omega
  have e : at8 ([vI a, vI b].take n) i = at8 [vI a, vI b] i := by
    unfold at8; rw [List.getD_eq_getElem?_getD, List.getElem?_take, if_pos hi2.1, List.getD_eq_getElem?_getD]
  rw [e]
  rcases (show i = 0 ∨ i = 1 by omega) with rfl | rfl
  all_goals
    refine ⟨_, none, 0, rfl, ?_, ?_, ?_, ?_, ?_, ?_, ?_, ?_, Nat.le_refl _, ?_⟩
    iterate 8 (focus (rw [add_p]; simp only [Nat.zero_add, Nat.zero_mul, Nat.one_mul, Nat.reduceAdd]; rw [World.cell?_alloc_new]; rfl))
    exact ⟨rfl, by show (0 : Nat) ≤ _; omega, fun h => absurd h (by show ¬ 0 < 0; omega)⟩
def WrO (w : World) (r : Int × List Int) (e : Ending) (w' : World) : Prop := ∃ v, e = .returned (.tuple #[v, .int .i64 r.1]) ∧ w'.ownsRow w.heap.size 5 1 v r.2.length (nums .u8 r.2) ∧ Byt r.2 ∧ Below w.heap.size w w'
theorem WrO.err {w w' : World} {r : Int × List Int} {i : Int} (h : r = (i, [])) (hb : Below w.heap.size w w') : WrO w r (.returned (.tuple #[.slice none 0 0, .int .i64 i])) w' := by
  subst h; exact ⟨_, rfl, own_nilB _ _, Byt.nil, hb⟩
theorem WrO.ok {w w' : World} {r : Int × List Int} {b : List Int} {v : Value} (h : r = (0, b)) (ho : w'.ownsRow w.heap.size 5 1 v b.length (nums .u8 b)) (hy : Byt b) (hb : Below w.heap.size w w') : WrO w r (.returned (.tuple #[v, .int .i64 0])) w' := by
  subst h; exact ⟨v, rfl, ho, hy, hb⟩
set_option maxHeartbeats 2000000 in
theorem ref_WriteO (A : Option Addr) (l : List E4) (c : Nat) (w : World) (hl : l.length ≤ 1000) (hr : ER w A l c) (hbd : ∀ i, i < l.length → (atE l i).Bd) : Calls Try.prog 12 #[.slice A l.length c] w (WrO w (wrP l)) := by
  have hrow := hr.row
  have hle := hr.le
  go_enter Try.func12, Try.ntmps12
  go_wp2
  go_loopw [4, 5] (fun v i wr => ∃ (k : Nat) (b : List Int), k ≤ l.length ∧ i = .int .i64 k ∧ wrFrom l k = some b ∧ Below w.heap.size w wr ∧ wr.ownsRow w.heap.size 5 1 v b.length (nums .u8 b)) (fun _ i _ => l.length - (intOf i).toNat)
  case atStart => exact ⟨0, [], by omega, rfl, rfl, Below.refl _ _, own_nilB _ _⟩
  case round =>
    obtain ⟨k, b, hk, rfl, hu, hbr, hown⟩ := hrel
    have hzr := hbr.size
    have hbl := (wrFrom_len l k b hu).1
    have hbl2 : b.length ≤ 49000 := by have : k * 49 ≤ 1000 * 49 := Nat.mul_le_mul_right _ (by omega); omega
    have HUU := Lib.hid hu
    have HBR := Lib.hid hbr
    by_cases hlt : k < l.length
    · obtain ⟨ad, rfl, f0, f1, f2, f3⟩ := hrow k hlt
      have q0 := pw_cell_below hbr f0; have q1 := pw_cell_below hbr f1; have q2 := pw_cell_below hbr f2; have q3 := pw_cell_below hbr f3
      have hlo := lt_of_cell q0
      have hb1 := hbd k hlt
      clear f0 f1 f2 f3 hrow hr hbd hu
      have cM := fun w => ref_MayE (atE l k) w hb1
      cases hm : mayE (atE l k)
      · have HU := Lib.hid (show wrP l = (1, []) from by
          have := wrFrom_none (wrFrom_no HUU.out hm) (l.length - (k + 1))
          rw [show k + 1 + (l.length - (k + 1)) = l.length by omega] at this
          unfold wrP; rw [this])
        rw [hm] at cM
        clear hm hb1
        generalize atE l k = e at *
        go_wp2_with (first | (go_at_call 11; (with_reducible refine (cM _).mono ?_); rintro en w2 ⟨rfl, hb2⟩; have q0 := pw_cell_below hb2 q0; have q1 := pw_cell_below hb2 q1; have q2 := pw_cell_below hb2 q2; have q3 := pw_cell_below hb2 q3; have hz2 := hb2.size; (try simp only [World.size_alloc, World.size_setCell, World.size_drew] at hz2)))
        go_ret2
        exact WrO.err HU.out (HBR.out.trans (Below.mono (show Below wr.heap.size wr _ from by (repeat (first | (with_reducible exact Below.refl _ _) | ((with_reducible refine Below.alloc ?_ ?hB _); (case hB => (first | omega | (simp; done) | (simp; omega)))) | ((with_reducible refine Below.setCell ?_ ?hB _); (case hB => (first | omega | (simp; done) | (simp; omega)))) | (with_reducible refine Below.drew ?_) | ((with_reducible refine below_ext_of ?_ ?hB); (case hB => (first | omega | (simp; done) | (simp; omega)))) | ((with_reducible refine Below.trans ?_ (Below.mono (by assumption) ?hB)); (case hB => (first | omega | (simp; done) | (simp; omega))))))) hzr))
      · have HU := Lib.hid (wrFrom_yes HUU.out hm)
        have hmm := of_decide_eq_true hm
        have hk5 : 0 ≤ (atE l k).k ∧ (atE l k).k ≤ 5 := ⟨hmm.1, hmm.2.1⟩
        have cf := fun w => ref_formE (atE l k).k w hk5
        have hf2 := formE_len (atE l k).k
        have hal : (argsE (atE l k)).length = (formE (atE l k).k).size := by unfold argsE; simp; omega
        have cP : ∀ A w, VRow w A (argsE (atE l k)) → Calls Try.prog 22 #[.string (formE (atE l k).k), .slice A (formE (atE l k).k).size 2] w (PackB w (bodyE (atE l k))) := fun A w h => by
          have := ref_PackB (formE (atE l k).k) A (argsE (atE l k)) 2 w (bodyE (atE l k)) (bodyE_byt _) hmm.2.2.1 (by omega) (by omega) (argsE_ok hb1) h
          rwa [hal] at this
        have HV2 := Lib.hid (fun w' : World => (show VRow (w'.alloc (.cells #[.int .i64 0, .int .i64 ((atE l k).a), .string { data := #[] }, .int .i64 0, .int .i64 0, .int .i64 0, .int .i64 0, .slice none 0 0, .int .i64 0, .int .i64 ((atE l k).b), .string { data := #[] }, .int .i64 0, .int .i64 0, .int .i64 0, .int .i64 0, .slice none 0 0] 57)) (some ⟨w'.heap.size, 0, none⟩) (argsE (atE l k)) from vrow_two w' _ _ _ hf2))
        have cw := fun A c w hs => ref_WriteYes (128 + (atE l k).k) (atE l k).id A (bodyE (atE l k)) c w hs (mayE_may hm)
        have hml := msgE_len (atE l k)
        unfold PackB at cP
        unfold WrP at cw
        have hmq : msgB (128 + (atE l k).k) (atE l k).id (bodyE (atE l k)) = msgE (atE l k) := rfl
        have hbl := bodyE_len (atE l k)
        rw [hmq] at cw
        rw [hm] at cM
        clear hm hb1 hmq hmm hal
        obtain ⟨mm, hmm⟩ : ∃ mm, msgE (atE l k) = mm := ⟨_, rfl⟩
        obtain ⟨bb, hbb⟩ : ∃ bb, bodyE (atE l k) = bb := ⟨_, rfl⟩
        obtain ⟨ll, hll⟩ : ∃ ll, argsE (atE l k) = ll := ⟨_, rfl⟩
        obtain ⟨f, hf⟩ : ∃ f, formE (atE l k).k = f := ⟨_, rfl⟩
        rw [hmm] at cw hml HU
        rw [hbb] at cP cw hbl
        rw [hll] at cP HV2
        rw [hf] at cf cP hf2
        clear hmm hbb hll hf
        have hw1 : IntKind.i64.wrap (128 + (atE l k).k) = 128 + (atE l k).k := by rw [IntKind.wrap_i64]; omega
        generalize atE l k = e at *
        go_wp2_with (first | (go_at_call 11; (with_reducible refine (cM _).mono ?_); rintro en w2 ⟨rfl, hb2⟩; have q0 := pw_cell_below hb2 q0; have q1 := pw_cell_below hb2 q1; have q2 := pw_cell_below hb2 q2; have q3 := pw_cell_below hb2 q3; have hz2 := hb2.size; (try simp only [World.size_alloc, World.size_setCell, World.size_drew] at hz2)) | (go_at_call 19; (with_reducible refine (cf _).mono ?_); rintro en w3 ⟨rfl, hb3⟩; have q0 := pw_cell_below hb3 q0; have q1 := pw_cell_below hb3 q1; have q2 := pw_cell_below hb3 q2; have q3 := pw_cell_below hb3 q3; have hz3 := hb3.size; (try simp only [World.size_alloc, World.size_setCell, World.size_drew] at hz3)))
        have Q0 := fun x => pw_cell_below (below_ext w3 x) q0; have Q2 := fun x => pw_cell_below (below_ext w3 x) q2; have Q3 := fun x => pw_cell_below (below_ext w3 x) q3
        (refine wp_region_ext_tail 12 (by kernel_rfl) (by kernel_rfl) ?_; simp only [List.take_succ_cons, List.take_zero, List.drop_succ_cons, List.drop_zero]; (repeat (go_big_quiet_step ((fail)))); refine wpQuiet_nil ?_; intro w4 hb_w4; obtain ⟨hc_w4, hf_w4⟩ := bcell hb_w4; have hz_w4 := hb_w4.size; (try simp only [World.size_alloc, World.size_setCell, World.size_drew] at hz_w4))
        have q0 := pw_cell_below hb_w4 q0; have q1 := pw_cell_below hb_w4 q1; have q2 := pw_cell_below hb_w4 q2; have q3 := pw_cell_below hb_w4 q3
        clear Q0 Q2 Q3
        go_wp2_with (first | (go_at_call 22; (with_reducible refine (cP _ _ ?_).mono ?_); (focus (exact (HV2.out _).below (by (repeat (first | (with_reducible exact Below.refl _ _) | ((with_reducible refine Below.alloc ?_ ?hB _); (case hB => (first | omega | (simp; done) | (simp; omega)))) | ((with_reducible refine Below.setCell ?_ ?hB _); (case hB => (first | omega | (simp; done) | (simp; omega)))) | (with_reducible refine Below.drew ?_) | ((with_reducible refine below_ext_of ?_ ?hB); (case hB => (first | omega | (simp; done) | (simp; omega)))) | ((with_reducible refine Below.trans ?_ (Below.mono (by assumption) ?hB)); (case hB => (first | omega | (simp; done) | (simp; omega))))))))); rintro en w5 ⟨A5, c5, rfl, hs5, hb5⟩; have hbb5 := (show Below w4.heap.size w4 w5 from by (repeat (first | (with_reducible exact Below.refl _ _) | ((with_reducible refine Below.alloc ?_ ?hB _); (case hB => (first | omega | (simp; done) | (simp; omega)))) | ((with_reducible refine Below.setCell ?_ ?hB _); (case hB => (first | omega | (simp; done) | (simp; omega)))) | (with_reducible refine Below.drew ?_) | ((with_reducible refine below_ext_of ?_ ?hB); (case hB => (first | omega | (simp; done) | (simp; omega)))) | ((with_reducible refine Below.trans ?_ (Below.mono (by assumption) ?hB)); (case hB => (first | omega | (simp; done) | (simp; omega))))))); have q0 := pw_cell_below hbb5 q0; have q1 := pw_cell_below hbb5 q1; have q2 := pw_cell_below hbb5 q2; have q3 := pw_cell_below hbb5 q3; replace hbb5 := Lib.hid hbb5; have hz5 := hb5.size; replace hs5 := Lib.hid hs5; (try simp only [World.size_alloc, World.size_setCell, World.size_drew] at hz5)))
        go_region_held3 (fun w' => w'.cell? (ad.add (k * 4)) = some (.int .i64 e.k) ∧ w'.cell? ⟨(ad.add (k * 4)).block, (ad.add (k * 4)).off + 1, none⟩ = some (.int .i64 e.id)) (first | go_keep | exact ⟨pw_cell_below hb7 (by assumption), pw_cell_below hb7 (by assumption)⟩) (first | (go_at_call 23; (with_reducible refine (cw _ _ _ (hs5.out.below ?_)).mono ?_); (focus ((repeat (first | (with_reducible exact Below.refl _ _) | ((with_reducible refine Below.alloc ?_ ?hB _); (case hB => (first | omega | (simp; done) | (simp; omega)))) | ((with_reducible refine Below.setCell ?_ ?hB _); (case hB => (first | omega | (simp; done) | (simp; omega)))) | (with_reducible refine Below.drew ?_) | ((with_reducible refine below_ext_of ?_ ?hB); (case hB => (first | omega | (simp; done) | (simp; omega)))) | ((with_reducible refine Below.trans ?_ (Below.mono (by assumption) ?hB)); (case hB => (first | omega | (simp; done) | (simp; omega)))))); done)); rintro en w7 ⟨v7, rfl, ho7, hb7⟩; obtain ⟨A7, c7, rfl, hr7⟩ := own_reads ho7; clear ho7; have hz7 := hb7.size; replace hr7 := Lib.hid hr7; (try simp only [World.size_alloc, World.size_setCell, World.size_drew] at hz7)))
        go_wp2_with (first | (at_builtin; refine print_append_row (w0 := w) (w.heap.size) rfl _ _ 23 5 .u8 1 rfl Try.underlying23 info_u8 (by decide) _ (b) (mm) _ _ _ rfl rfl (pw_own_below hown ?_) (ReadsInt.below hr7.out ?_) ?_ ?_ ?_ ?_; (focus ((repeat (first | (with_reducible exact Below.refl _ _) | ((with_reducible refine Below.alloc ?_ ?hB _); (case hB => (first | omega | (simp; done) | (simp; omega)))) | ((with_reducible refine Below.setCell ?_ ?hB _); (case hB => (first | omega | (simp; done) | (simp; omega)))) | (with_reducible refine Below.drew ?_) | ((with_reducible refine below_ext_of ?_ ?hB); (case hB => (first | omega | (simp; done) | (simp; omega)))) | ((with_reducible refine Below.trans ?_ (Below.mono (by assumption) ?hB)); (case hB => (first | omega | (simp; done) | (simp; omega)))))); done)); (focus ((repeat (first | (with_reducible exact Below.refl _ _) | ((with_reducible refine Below.alloc ?_ ?hB _); (case hB => (first | omega | (simp; done) | (simp; omega)))) | ((with_reducible refine Below.setCell ?_ ?hB _); (case hB => (first | omega | (simp; done) | (simp; omega)))) | (with_reducible refine Below.drew ?_) | ((with_reducible refine below_ext_of ?_ ?hB); (case hB => (first | omega | (simp; done) | (simp; omega)))) | ((with_reducible refine Below.trans ?_ (Below.mono (by assumption) ?hB)); (case hB => (first | omega | (simp; done) | (simp; omega)))))); done)); (focus ((repeat (first | (with_reducible exact Below.refl _ _) | ((with_reducible refine Below.alloc ?_ ?hB _); (case hB => (first | omega | (simp; done) | (simp; omega)))) | ((with_reducible refine Below.setCell ?_ ?hB _); (case hB => (first | omega | (simp; done) | (simp; omega)))) | (with_reducible refine Below.drew ?_) | ((with_reducible refine below_ext_of ?_ ?hB); (case hB => (first | omega | (simp; done) | (simp; omega)))) | ((with_reducible refine Below.trans ?_ (Below.mono (by assumption) ?hB)); (case hB => (first | omega | (simp; done) | (simp; omega)))))); done)); (focus ((first | omega | (simp; done) | (simp; omega)); done)); (focus ((try simp only [List.length_append, List.length_cons, List.length_nil]); omega)); intro v8 w8 hown8 hb8 _ _; have hz8 := hb8.size; (try simp only [World.size_alloc, World.size_setCell, World.size_drew] at hz8); obtain ⟨hc8, hf8⟩ := bcellB hb8))
        go_roundw
        case rel => exact ⟨k + 1, b ++ mm, by omega, by go_num, HU.out, hb8, hown8⟩
        case measure => simp [intOf]; omega
    · obtain rfl : k = l.length := by omega
      have HU := Lib.hid (show wrP l = (0, b) from by unfold wrP; rw [hu])
      have HY := Lib.hid (wrFrom_len l _ b hu).2
      clear hrow hr hbd hu
      go_wp2 
      go_ret2
      exact WrO.ok HU.out hown HY.out HBR.out
theorem ref_WriteE (A : Option Addr) (l : List E4) (c : Nat) (w : World) (hl : l.length ≤ 1000) (hr : ER w A l c) (hbd : ∀ i, i < l.length → (atE l i).Bd) : Calls Try.prog 12 #[.slice A l.length c] w (WriteP w (wrP l)) :=
  (ref_WriteO A l c w hl hr hbd).mono fun e w' ⟨v, he, ho, hy, hb⟩ => by
    obtain ⟨A', c', rfl, hs⟩ := BS.own ho hy
    exact ⟨A', c', he, hs, hb⟩
end Go.Proofs.Ytinnaiofgbjicaa
