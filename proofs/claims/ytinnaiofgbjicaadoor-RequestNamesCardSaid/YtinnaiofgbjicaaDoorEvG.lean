/- The bytes of events; lists of events of one and the other: walked. -/
import Derived.Test.YtinnaiofgbjicaaDoorEvE
import Derived.Test.YtinnaiofgbjicaaDoorEvF
import Derived.Deep.RegionHeld3
import Derived.Deep.AppendLies
namespace Go.Proofs.YtinnaiofgbjicaaDoor
open Go.RowKit Go.Proofs.YtinnaiofgbjicaaDoorW.PrintWords
set_option linter.unusedSimpArgs false
set_option linter.unusedVariables false
set_option maxRecDepth 1000000
theorem append_oneE {P : Program} {ops : Array Oper} {rest : List Oper} {o : Oper} {a : Act} {Q : Exit → Act → World → Prop} {w0 W : World} (base : Nat) (hgd : o.guard = none) {s x : Operand} {t e : TypeId}
    (ho : o.op = .call { callee := .builtin .append, args := #[s, x], argTypes := #[t, t] })
    (ht : P.underlying t = some (.slice e)) (hinfo : (P.info? e).map (fun i => (i.zero, i.size, i.bytes)) = some (some (.agg #[.int .i64 0, .int .i64 0, .int .i64 0, .int .i64 0]), 4, 32))
    (v : Value) (l : List E4) (k : E4) (g : Nat) (hs : a.eval s = v) (hx : a.eval x = .slice (some ⟨g, 0, none⟩) 1 1) (HO : OwnE W base e v l) (hg : W.heap[g]? = some (.cells #[.int .i64 k.k, .int .i64 k.id, .int .i64 k.a, .int .i64 k.b] e (0, 0))) (HB : Below base w0 W) (hbase : base ≤ W.heap.size) (hl : l.length ≤ 1000000)
    (h : ∀ v1 w1, OwnE w1 base e v1 (l ++ [k]) → Below base w0 w1 → wpList P ops Q rest (a.put o.dst v1) w1) :
    wpList P ops Q (o :: rest) a W := by
  obtain ⟨i0, hi, hzz⟩ := Option.map_eq_some_iff.1 hinfo
  simp only [Prod.mk.injEq] at hzz
  obtain ⟨hz0, hz1, hz2⟩ := hzz
  refine wpList_append_own_at W hgd s x t ho base e i0 _ 4 32 ht hi hz0 hz1 hz2 rfl (by omega) v _ _ hs HO ⟨g, 0, none⟩ 1 1 k.cells hx rfl (fun j u hj => ?_) (fun u hu => ?_) (by simp only [maxLen]; omega) (by omega) hbase ?_
  · rw [add_p, blk_cell hg]; simpa [E4.cells] using hj
  · simp only [E4.cells, List.mem_cons, List.not_mem_nil, or_false] at hu
    rcases hu with rfl | rfl | rfl | rfl <;> rfl
  · intro v1 w1 hown hg2 _ hat
    exact h v1 w1 (by unfold OwnE; rw [flatE_append, flatE_one, List.length_append]; exact hown) (HB.grown hg2 hbase (fun k hk => (World.ownsRow.lt HO k hk).1))
set_option maxHeartbeats 1000000 in
theorem law_of (A : Option Addr) (l : List E4) (c : Nat) (w : World) (hl : l.length ≤ 1000000) (hr : ER w A l c) : Calls Tryd.prog 24 #[.slice A l.length c] w (RowE w 57 l) := by
  have hrow := hr.row
  have hle := hr.le
  obtain ⟨i0, hi0, hz0, hz1, hz2⟩ := info_parts info_ev
  go_enter Tryd.func24, Tryd.ntmps24
  go_wp2
  go_loopw [3, 4] (fun v i wr => ∃ k : Nat, k ≤ l.length ∧ i = .int .i64 k ∧ Below w.heap.size w wr ∧ OwnE wr w.heap.size 57 v (l.take k)) (fun _ i _ => l.length - (intOf i).toNat)
  case atStart => exact ⟨0, by omega, rfl, Below.refl _ _, OwnE.nil _ _ _⟩
  case round =>
    obtain ⟨k, hk, rfl, hbr, hown⟩ := hrel
    have hzr := hbr.size
    by_cases hlt : k < l.length
    · obtain ⟨ad, rfl, f0, f1, f2, f3⟩ := hrow k hlt
      have q0 := pw_cell_below hbr f0; have q1 := pw_cell_below hbr f1; have q2 := pw_cell_below hbr f2; have q3 := pw_cell_below hbr f3
      have ht := Lib.hid (takeEv l k hlt)
      have hm4 : (l.take k).length ≤ 1000000 := by simp; omega
      have hne : some (ad.add (k * 4)).block ≠ u3.ownBlock := fun h => by
        have h1 := lt_of_cell f0
        have h2 := (World.ownsRow.lt hown _ h.symm).1
        omega
      have hlo := lt_of_cell q0
      clear f0 f1 f2 f3 hrow hr
      obtain ⟨e, he⟩ : ∃ e, atE l k = e := ⟨_, rfl⟩
      obtain ⟨m, hm⟩ : ∃ m, l.take k = m := ⟨_, rfl⟩
      rw [he] at q0 q1 q2 q3 ht
      rw [hm] at hown hm4 ht
      clear he hm
      go_wp2_with fail
      go_region_held3 (fun w' => w'.cell? (ad.add (k * 4)) = some (.int .i64 e.k) ∧ w'.cell? ⟨(ad.add (k * 4)).block, (ad.add (k * 4)).off + 1, none⟩ = some (.int .i64 e.id) ∧ w'.cell? ⟨(ad.add (k * 4)).block, (ad.add (k * 4)).off + 2, none⟩ = some (.int .i64 e.a) ∧ w'.cell? ⟨(ad.add (k * 4)).block, (ad.add (k * 4)).off + 3, none⟩ = some (.int .i64 e.b))
        (first
          | go_keep
          | (go_split_ands
             exact ⟨hgrow.cell (by assumption) hne, hgrow.cell (by assumption) hne, hgrow.cell (by assumption) hne, hgrow.cell (by assumption) hne⟩))
        ((refine step_append_lies _ (by rfl) _ _ _ (by rfl) w.heap.size 57 i0 _ 4 32 Tryd.underlying53 hi0 hz0 hz1 hz2 rfl (by omega) u3 m.length (flatE m) (by rfl) (pw_own_below hown (by (repeat (first | (with_reducible exact Below.refl _ _) | ((with_reducible refine Below.alloc ?_ ?hB _); (case hB => (first | omega | (simp; done) | (simp; omega)))) | ((with_reducible refine Below.setCell ?_ ?hB _); (case hB => (first | omega | (simp; done) | (simp; omega)))) | (with_reducible refine Below.drew ?_) | ((with_reducible refine below_ext_of ?_ ?hB); (case hB => (first | omega | (simp; done) | (simp; omega)))) | ((with_reducible refine Below.trans ?_ (Below.mono (by assumption) ?hB)); (case hB => (first | omega | (simp; done) | (simp; omega)))))))) ⟨wr.heap.size, 0, none⟩ 1 1 [.int .i64 e.k, .int .i64 e.id, .int .i64 e.a, .int .i64 e.b] (by rfl) (by rfl) (World.news_of_block (cs := #[.int .i64 e.k, .int .i64 e.id, .int .i64 e.a, .int .i64 e.b]) (t := 57) (fr := (0, 0)) (heap_alloc_new wr _)) (by simp [Value.oneCell']) (by omega) (by simp only [maxLen]; omega) (by omega) (by simp; omega) (wr.heap.size + 1) (by simp) ?_; intro gg cap w1 hown1 hgrow hat hlt'))
      have hb2 : Below w.heap.size w w1 := Below.grown (show Below w.heap.size w _ from by (repeat (first | (with_reducible exact Below.refl _ _) | ((with_reducible refine Below.alloc ?_ ?hB _); (case hB => (first | omega | (simp; done) | (simp; omega)))) | ((with_reducible refine Below.setCell ?_ ?hB _); (case hB => (first | omega | (simp; done) | (simp; omega)))) | (with_reducible refine Below.drew ?_) | ((with_reducible refine below_ext_of ?_ ?hB); (case hB => (first | omega | (simp; done) | (simp; omega)))) | ((with_reducible refine Below.trans ?_ (Below.mono (by assumption) ?hB)); (case hB => (first | omega | (simp; done) | (simp; omega))))))) hgrow (by simp; omega) (fun k h => (World.ownsRow.lt hown k h).1)
      go_wp2
      go_roundw
      case rel => exact ⟨k + 1, by omega, by go_num, hb2, by rw [ht.out]; exact OwnE.snoc hown1⟩
      case measure => simp [intOf]; omega
    · obtain rfl : k = l.length := by omega
      rw [List.take_length] at hown
      go_wp2_with fail
      go_ret
      exact ⟨_, rfl, hown, hbr⟩
/-- An event's bytes. -/
def msgE (e : E4) : List Int := msgB (128 + e.k) e.id (bodyE e)
theorem msgE_len (e : E4) : (msgE e).length ≤ 49 := by
  have := bodyE_len e
  show (head7 _ _ _ ++ bodyE e).length ≤ 49
  rw [List.length_append]; show 7 + _ ≤ 49; omega
theorem msgE_byt (e : E4) : Byt (msgE e) := by
  refine Byt.append (fun n hn => ?_) (bodyE_byt e)
  unfold head7 at hn
  simp only [List.mem_cons, List.not_mem_nil, or_false] at hn
  omega
theorem mayE_may {e : E4} (h : mayE e = true) : mayM (128 + e.k) e.id (bodyE e).length = true := (of_decide_eq_true h).2.2.2.1
def wrFrom (l : List E4) : Nat → Option (List Int)
  | 0 => some []
  | k + 1 => match wrFrom l k with
    | none => none
    | some b => if mayE (atE l k) = true then some (b ++ msgE (atE l k)) else none
theorem wrFrom_yes {l : List E4} {k : Nat} {b : List Int} (h : wrFrom l k = some b) (hp : mayE (atE l k) = true) : wrFrom l (k + 1) = some (b ++ msgE (atE l k)) := by
  simp only [wrFrom, h, hp]; simp
theorem wrFrom_no {l : List E4} {k : Nat} {b : List Int} (h : wrFrom l k = some b) (hp : mayE (atE l k) = false) : wrFrom l (k + 1) = none := by
  simp only [wrFrom, h, hp]; simp
theorem wrFrom_none {l : List E4} {k : Nat} (h : wrFrom l k = none) : ∀ j, wrFrom l (k + j) = none
  | 0 => h
  | j + 1 => by
    have := wrFrom_none h j
    show wrFrom l ((k + j) + 1) = none
    simp only [wrFrom, this]
theorem wrFrom_len (l : List E4) : ∀ k b, wrFrom l k = some b → b.length ≤ k * 49 ∧ Byt b
  | 0, b, h => by injection h with h; subst h; exact ⟨by simp, Byt.nil⟩
  | k + 1, b, h => by
    unfold wrFrom at h
    split at h
    · cases h
    · rename_i b1 h1
      split at h
      · injection h with h; subst h
        obtain ⟨h2, h3⟩ := wrFrom_len l k b1 h1
        have := msgE_len (atE l k)
        exact ⟨by rw [List.length_append]; omega, h3.append (msgE_byt _)⟩
      · cases h
def wrP (l : List E4) : Int × List Int := match wrFrom l l.length with
  | none => (1, [])
  | some b => (0, b)
def WriteP (w : World) (r : Int × List Int) (e : Ending) (w' : World) : Prop := ∃ A c, e = .returned (.tuple #[.slice A r.2.length c, .int .i64 r.1]) ∧ BS w' A r.2 c ∧ Below w.heap.size w w'
theorem BS.nil' (w : World) : BS w none [] 0 := ⟨Nat.le_refl _, fun _ => rfl, by omega, reads_nil _ _, Byt.nil⟩
theorem WriteP.err {w w' : World} {r : Int × List Int} {i : Int} (h : r = (i, [])) (hb : Below w.heap.size w w') : WriteP w r (.returned (.tuple #[.slice none 0 0, .int .i64 i])) w' := by
  subst h; exact ⟨none, 0, rfl, BS.nil' _, hb⟩
theorem BS.own {w : World} {base : Nat} {v : Value} {b : List Int} (h : w.ownsRow base 5 1 v b.length (nums .u8 b)) (hy : Byt b) : ∃ A c, v = .slice A b.length c ∧ BS w A b c := by
  obtain ⟨A, c, rfl, hr⟩ := own_reads h
  exact ⟨A, c, rfl, own_le h, (own_nilc h).1, (own_nilc h).2, hr, hy⟩
theorem WriteP.ok {w w' : World} {r : Int × List Int} {b : List Int} {v : Value} {base : Nat} (h : r = (0, b)) (ho : w'.ownsRow base 5 1 v b.length (nums .u8 b)) (hy : Byt b) (hb : Below w.heap.size w w') : WriteP w r (.returned (.tuple #[v, .int .i64 0])) w' := by
  subst h
  obtain ⟨A, c, rfl, hs⟩ := BS.own ho hy
  exact ⟨A, c, rfl, hs, hb⟩
def MsgY (w : World) (e : E4) (en : Ending) (w' : World) : Prop := ∃ A c, en = .returned (.tuple #[(.agg #[.int .i64 ((128 + e.k)), .int .i64 (e.id), .slice (A) ((bodyE e).length) (c)]), .bool true]) ∧ BS w' A (bodyE e) c ∧ Below w.heap.size w w'
def MsgN (w : World) (en : Ending) (w' : World) : Prop := ∃ op id A n c, en = .returned (.tuple #[(.agg #[.int .i64 (op), .int .i64 (id), .slice (A) (n) (c)]), .bool false]) ∧ Below w.heap.size w w'
theorem ev_msgY (e : E4) (w : World) (hbd : e.Bd) (h : mayE e = true) : Calls Tryd.prog 86 #[(.agg #[.int .i64 (e).k, .int .i64 (e).id, .int .i64 (e).a, .int .i64 (e).b])] w (MsgY w e) := by
  refine (ev_message e w hbd).mono fun en w' ⟨op, id, A, n, c, he, hy, hb⟩ => ?_
  obtain ⟨rfl, rfl, rfl, hs⟩ := hy h
  rw [h] at he
  exact ⟨A, c, he, hs, hb⟩
theorem ev_msgN (e : E4) (w : World) (hbd : e.Bd) (h : mayE e = false) : Calls Tryd.prog 86 #[(.agg #[.int .i64 (e).k, .int .i64 (e).id, .int .i64 (e).a, .int .i64 (e).b])] w (MsgN w) := by
  refine (ev_message e w hbd).mono fun en w' ⟨op, id, A, n, c, he, hy, hb⟩ => ?_
  rw [h] at he
  exact ⟨op, id, A, n, c, he, hb⟩
set_option maxHeartbeats 1000000 in
theorem ev_Write (A : Option Addr) (l : List E4) (c : Nat) (w : World) (hl : l.length ≤ 1000) (hr : ER w A l c) (hbd : ∀ i, i < l.length → (atE l i).Bd) : Calls Tryd.prog 54 #[.slice A l.length c] w (WriteP w (wrP l)) := by
  have hrow := hr.row
  have hle := hr.le
  go_enter Tryd.func54, Tryd.ntmps54
  go_wp2
  go_loopw [4, 13] (fun v i wr => ∃ (k : Nat) (b : List Int), k ≤ l.length ∧ i = .int .i64 k ∧ wrFrom l k = some b ∧ Below w.heap.size w wr ∧ wr.ownsRow w.heap.size 5 1 v b.length (nums .u8 b)) (fun _ i _ => l.length - (intOf i).toNat)
  case atStart => exact ⟨0, [], by omega, rfl, rfl, Below.refl _ _, own_nilB _ _⟩
  case round =>
    obtain ⟨k, b, hk, rfl, hu, hbr, hown⟩ := hrel
    have hzr := hbr.size
    have hbl := (wrFrom_len l k b hu).1
    have hbl2 : b.length ≤ 49000 := by have : k * 49 ≤ 1000 * 49 := Nat.mul_le_mul_right _ (by omega); omega
    have HUU := Lib.hid hu
    have HBR := Lib.hid hbr
    by_cases hlt : k < l.length
    · obtain ⟨ad, rfl, f0, f1, f2, f3⟩ := hrow k hlt
      have q0 := pw_cell_below hbr f0; have q1 := pw_cell_below hbr f1; have q2 := pw_cell_below hbr f2; have q3 := pw_cell_below hbr f3
      have hb1 := hbd k hlt
      clear f0 f1 f2 f3 hrow hr hbd hu
      cases hm : mayE (atE l k)
      · have HU := Lib.hid (show wrP l = (1, []) from by
          have := wrFrom_none (wrFrom_no HUU.out hm) (l.length - (k + 1))
          rw [show k + 1 + (l.length - (k + 1)) = l.length by omega] at this
          unfold wrP; rw [this])
        have cy := fun w => ev_msgN (atE l k) w hb1 hm
        unfold MsgN at cy
        clear hm hb1
        generalize atE l k = e at *
        go_wp2_with (first | (go_at_call 86; (with_reducible refine (cy _).mono ?_); rintro en w3 ⟨op3, id3, A3, n3, c3, rfl, hb3⟩; obtain ⟨hc3, hf3⟩ := bcell hb3; have hz3 := hb3.size; (try simp only [World.size_alloc, World.size_setCell, World.size_drew] at hz3)))
        go_ret2
        exact WriteP.err HU.out (HBR.out.trans (Below.mono (show Below wr.heap.size wr _ from by (repeat (first | (with_reducible exact Below.refl _ _) | ((with_reducible refine Below.alloc ?_ ?hB _); (case hB => (first | omega | (simp; done) | (simp; omega)))) | ((with_reducible refine Below.setCell ?_ ?hB _); (case hB => (first | omega | (simp; done) | (simp; omega)))) | (with_reducible refine Below.drew ?_) | ((with_reducible refine below_ext_of ?_ ?hB); (case hB => (first | omega | (simp; done) | (simp; omega)))) | ((with_reducible refine Below.trans ?_ (Below.mono (by assumption) ?hB)); (case hB => (first | omega | (simp; done) | (simp; omega))))))) hzr))
      · have HU := Lib.hid (wrFrom_yes HUU.out hm)
        have cy := fun w => ev_msgY (atE l k) w hb1 hm
        have cw := fun A c w hs => frame_WriteYes (128 + (atE l k).k) (atE l k).id A (bodyE (atE l k)) c w hs (mayE_may hm)
        have hml := msgE_len (atE l k)
        unfold MsgY at cy
        unfold WrP at cw
        have hmq : msgB (128 + (atE l k).k) (atE l k).id (bodyE (atE l k)) = msgE (atE l k) := rfl
        rw [hmq] at cw
        clear hm hb1 hmq
        obtain ⟨mm, hmm⟩ : ∃ mm, msgE (atE l k) = mm := ⟨_, rfl⟩
        obtain ⟨bb, hbb⟩ : ∃ bb, bodyE (atE l k) = bb := ⟨_, rfl⟩
        rw [hmm] at cw hml HU
        rw [hbb] at cy cw
        clear hmm hbb
        generalize atE l k = e at *
        go_wp2_with (first | (go_at_call 86; (with_reducible refine (cy _).mono ?_); rintro en w3 ⟨A3, c3, rfl, hs3, hb3⟩; obtain ⟨hc3, hf3⟩ := bcell hb3; have hz3 := hb3.size; replace hs3 := Lib.hid hs3; (try simp only [World.size_alloc, World.size_setCell, World.size_drew] at hz3)) | (go_at_call 87; (with_reducible refine (cw _ _ _ (hs3.out.below ?_)).mono ?_); (focus ((repeat (first | (with_reducible exact Below.refl _ _) | ((with_reducible refine Below.alloc ?_ ?hB _); (case hB => (first | omega | (simp; done) | (simp; omega)))) | ((with_reducible refine Below.setCell ?_ ?hB _); (case hB => (first | omega | (simp; done) | (simp; omega)))) | (with_reducible refine Below.drew ?_) | ((with_reducible refine below_ext_of ?_ ?hB); (case hB => (first | omega | (simp; done) | (simp; omega)))) | ((with_reducible refine Below.trans ?_ (Below.mono (by assumption) ?hB)); (case hB => (first | omega | (simp; done) | (simp; omega)))))); done)); rintro en w4 ⟨v4, rfl, ho4, hb4⟩; obtain ⟨A4, c4, rfl, hr4⟩ := own_reads ho4; clear ho4; have hz4 := hb4.size; replace hr4 := Lib.hid hr4; (try simp only [World.size_alloc, World.size_setCell, World.size_drew] at hz4)) | (at_builtin; refine print_append_row (w0 := w) (w.heap.size) rfl _ _ 22 5 .u8 1 rfl Tryd.underlying22 info_u8 (by decide) _ (b) (mm) _ _ _ rfl rfl (pw_own_below hown ?_) (ReadsInt.below hr4.out ?_) ?_ ?_ ?_ ?_; (focus ((repeat (first | (with_reducible exact Below.refl _ _) | ((with_reducible refine Below.alloc ?_ ?hB _); (case hB => (first | omega | (simp; done) | (simp; omega)))) | ((with_reducible refine Below.setCell ?_ ?hB _); (case hB => (first | omega | (simp; done) | (simp; omega)))) | (with_reducible refine Below.drew ?_) | ((with_reducible refine below_ext_of ?_ ?hB); (case hB => (first | omega | (simp; done) | (simp; omega)))) | ((with_reducible refine Below.trans ?_ (Below.mono (by assumption) ?hB)); (case hB => (first | omega | (simp; done) | (simp; omega)))))); done)); (focus ((repeat (first | (with_reducible exact Below.refl _ _) | ((with_reducible refine Below.alloc ?_ ?hB _); (case hB => (first | omega | (simp; done) | (simp; omega)))) | ((with_reducible refine Below.setCell ?_ ?hB _); (case hB => (first | omega | (simp; done) | (simp; omega)))) | (with_reducible refine Below.drew ?_) | ((with_reducible refine below_ext_of ?_ ?hB); (case hB => (first | omega | (simp; done) | (simp; omega)))) | ((with_reducible refine Below.trans ?_ (Below.mono (by assumption) ?hB)); (case hB => (first | omega | (simp; done) | (simp; omega)))))); done)); (focus ((repeat (first | (with_reducible exact Below.refl _ _) | ((with_reducible refine Below.alloc ?_ ?hB _); (case hB => (first | omega | (simp; done) | (simp; omega)))) | ((with_reducible refine Below.setCell ?_ ?hB _); (case hB => (first | omega | (simp; done) | (simp; omega)))) | (with_reducible refine Below.drew ?_) | ((with_reducible refine below_ext_of ?_ ?hB); (case hB => (first | omega | (simp; done) | (simp; omega)))) | ((with_reducible refine Below.trans ?_ (Below.mono (by assumption) ?hB)); (case hB => (first | omega | (simp; done) | (simp; omega)))))); done)); (focus ((first | omega | (simp; done) | (simp; omega)); done)); (focus ((try simp only [List.length_append, List.length_cons, List.length_nil]); omega)); intro v5 w5 hown5 hb5 _ _; have hz5 := hb5.size; (try simp only [World.size_alloc, World.size_setCell, World.size_drew] at hz5); obtain ⟨hc5, hf5⟩ := bcellB hb5))
        go_roundw
        case rel => exact ⟨k + 1, b ++ mm, by omega, by go_num, HU.out, hb5, hown5⟩
        case measure => simp [intOf]; omega
    · obtain rfl : k = l.length := by omega
      have HU := Lib.hid (show wrP l = (0, b) from by unfold wrP; rw [hu])
      have HY := Lib.hid (wrFrom_len l _ b hu).2
      clear hrow hr hbd hu
      go_wp2 
      go_ret2
      exact WriteP.ok HU.out hown HY.out HBR.out
end Go.Proofs.YtinnaiofgbjicaaDoor
