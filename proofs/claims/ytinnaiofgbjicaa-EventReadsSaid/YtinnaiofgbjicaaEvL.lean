/- All messages of bytes, in plain lists; rows of messages. -/
import Derived.Test.YtinnaiofgbjicaaFrBa
import Derived.Test.YtinnaiofgbjicaaFrC
import Derived.Test.YtinnaiofgbjicaaFrA
import Derived.Test.YtinnaiofgbjicaaEvJ
namespace Go.Proofs.Ytinnaiofgbjicaa
open Go.RowKit Go.Proofs.YtinnaiofgbjicaaW.PrintWords
set_option linter.unusedSimpArgs false
set_option linter.unusedVariables false
set_option maxRecDepth 1000000
theorem readP_short {b : List Int} (h : b.length < 2) : readP b = .inl 3 := by unfold readP; rw [if_pos h]
theorem readP_form {b : List Int} (h : 2 ≤ b.length) (hn : numH b < 7 ∨ 4103 < numH b) : readP b = .inl 2 := by unfold readP; rw [if_neg (by omega), if_pos hn]
theorem readP_less {b : List Int} (h : 2 ≤ b.length) (h7 : 7 ≤ numH b) (h8 : numH b ≤ 4103) (hl : (b.length : Int) < numH b) : readP b = .inl 3 := by unfold readP; rw [if_neg (by omega), if_neg (by omega), if_pos hl]
theorem readP_ok {b : List Int} {k : Nat} (h : 2 ≤ b.length) (hk : numH b = (k : Int)) (h7 : 7 ≤ k) (h8 : k ≤ 4103) (hl : k ≤ b.length) : readP b = .inr (⟨b.getD 2 0, numU (b.drop 3), (b.take k).drop 7⟩, k) := by
  unfold readP; rw [if_neg (by omega), hk, if_neg (by omega), if_neg (by omega), Int.toNat_natCast]
theorem readP_cases (b : List Int) (hb : Byt b) : b.length < 2 ∨ (2 ≤ b.length ∧ (numH b < 7 ∨ 4103 < numH b)) ∨ (2 ≤ b.length ∧ 7 ≤ numH b ∧ numH b ≤ 4103 ∧ (b.length : Int) < numH b) ∨ (2 ≤ b.length ∧ ∃ k : Nat, numH b = (k : Int) ∧ 7 ≤ k ∧ k ≤ 4103 ∧ k ≤ b.length) := by
  have := numH_bd hb
  by_cases h : b.length < 2
  · exact .inl h
  · by_cases h1 : numH b < 7 ∨ 4103 < numH b
    · exact .inr (.inl ⟨by omega, h1⟩)
    · by_cases h2 : (b.length : Int) < numH b
      · exact .inr (.inr (.inl ⟨by omega, by omega, by omega, h2⟩))
      · exact .inr (.inr (.inr ⟨by omega, (numH b).toNat, by omega, by omega, by omega, by omega⟩))
theorem frame_Read (A : Option Addr) (b : List Int) (c : Nat) (w : World) (hs : BS w A b c) : Calls Try.prog 36 #[.slice A b.length c] w (RdP w (fun g => w.heap.size ≤ g) (readP b)) := by
  rcases readP_cases b hs.byt with h | ⟨h, hn⟩ | ⟨h, h7, h8, hl⟩ | ⟨h, k, hk, h7, h8, hl⟩
  · rw [readP_short h]; exact frame_Read3 A b c w hs h
  · rw [readP_form h hn]; exact frame_ReadE A b c w hs h 2 (.inl ⟨hn, rfl⟩)
  · rw [readP_less h h7 h8 hl]; exact frame_ReadE A b c w hs h 3 (.inr ⟨h7, h8, hl, rfl⟩)
  · rw [readP_ok h hk h7 h8 hl]; exact frame_ReadOk A b c k w hs h hk h7 h8 hl
theorem ref_Read (A : Option Addr) (b : List Int) (c : Nat) (w : World) (hs : BS w A b c) : Calls Try.prog 39 #[.slice A b.length c] w (RdP w (fun g => ∃ ad, A = some ad ∧ g = ad.block) (readP b)) := by
  rcases readP_cases b hs.byt with h | ⟨h, hn⟩ | ⟨h, h7, h8, hl⟩ | ⟨h, k, hk, h7, h8, hl⟩
  · rw [readP_short h]; exact ref_Read3 A b c w hs h
  · rw [readP_form h hn]; exact ref_ReadE A b c w hs h 2 (.inl ⟨hn, rfl⟩)
  · rw [readP_less h h7 h8 hl]; exact ref_ReadE A b c w hs h 3 (.inr ⟨h7, h8, hl, rfl⟩)
  · rw [readP_ok h hk h7 h8 hl]; exact ref_ReadOk A b c k w hs h hk h7 h8 hl
/-- All messages that bytes begin with, how many bytes they are, the error's number. -/
def splitF : Nat → List Int → List M3 × Nat × Int
  | 0, _ => ([], 0, 0)
  | f + 1, b => if b.length = 0 then ([], 0, 0) else match readP b with
    | .inl i => ([], 0, i)
    | .inr (m, n) => (m :: (splitF f (b.drop n)).1, n + (splitF f (b.drop n)).2.1, (splitF f (b.drop n)).2.2)
def splitP (b : List Int) : List M3 × Nat × Int := splitF (b.length + 1) b
/-- What has come when the bytes from a place on are left. -/
def SplitAt (b : List Int) (L : List M3) (at_ f : Nat) : Prop := splitP b = (L ++ (splitF f (b.drop at_)).1, at_ + (splitF f (b.drop at_)).2.1, (splitF f (b.drop at_)).2.2) ∧ b.length - at_ < f ∧ at_ ≤ b.length
theorem SplitAt.start (b : List Int) : SplitAt b [] 0 (b.length + 1) := ⟨by simp [splitP], by omega, by omega⟩
theorem readP_n {b : List Int} {m : M3} {n : Nat} (hb : Byt b) (h : readP b = .inr (m, n)) : 7 ≤ n ∧ n ≤ b.length ∧ 2 ≤ b.length := by
  rcases readP_cases b hb with h1 | ⟨h1, hn⟩ | ⟨h1, h7, h8, hl⟩ | ⟨h1, k, hk, h7, h8, hl⟩
  · rw [readP_short h1] at h; cases h
  · rw [readP_form h1 hn] at h; cases h
  · rw [readP_less h1 h7 h8 hl] at h; cases h
  · rw [readP_ok h1 hk h7 h8 hl] at h; injection h with h; injection h with e1 e2; omega
theorem SplitAt.step {b : List Int} {L : List M3} {at_ f n : Nat} {m : M3} (hb : Byt b) (h : SplitAt b L at_ f) (hr : readP (b.drop at_) = .inr (m, n)) : SplitAt b (L ++ [m]) (at_ + n) (f - 1) := by
  obtain ⟨h1, h2, h3⟩ := h
  have hn := readP_n (hb.drop at_) hr
  have hl : (b.drop at_).length = b.length - at_ := List.length_drop
  obtain ⟨f, rfl⟩ : ∃ g, f = g + 1 := ⟨f - 1, by omega⟩
  have e : splitF (f + 1) (b.drop at_) = (m :: (splitF f ((b.drop at_).drop n)).1, n + (splitF f ((b.drop at_).drop n)).2.1, (splitF f ((b.drop at_).drop n)).2.2) := by
    rw [splitF, if_neg (by omega), hr]
  rw [e, List.drop_drop] at h1
  refine ⟨?_, by simp only [Nat.add_sub_cancel]; omega, by omega⟩
  rw [h1]
  simp only [Nat.add_sub_cancel, List.append_assoc, List.singleton_append, Nat.add_assoc]
theorem SplitAt.stop {b : List Int} {L : List M3} {at_ f : Nat} {i : Int} (hb : Byt b) (h : SplitAt b L at_ f) (hlt : at_ < b.length) (hr : readP (b.drop at_) = .inl i) : splitP b = (L, at_, i) := by
  obtain ⟨h1, h2, h3⟩ := h
  have hl : (b.drop at_).length = b.length - at_ := List.length_drop
  obtain ⟨f, rfl⟩ : ∃ g, f = g + 1 := ⟨f - 1, by omega⟩
  rw [splitF, if_neg (by omega), hr] at h1
  rw [h1]; simp
theorem SplitAt.end_ {b : List Int} {L : List M3} {at_ f : Nat} (h : SplitAt b L at_ f) (hlt : ¬ at_ < b.length) : splitP b = (L, b.length, 0) := by
  obtain ⟨h1, h2, h3⟩ := h
  have hl : (b.drop at_).length = b.length - at_ := List.length_drop
  obtain ⟨f, rfl⟩ : ∃ g, f = g + 1 := ⟨f - 1, by omega⟩
  rw [splitF, if_pos (by omega)] at h1
  rw [h1]; simp; omega
end Go.Proofs.Ytinnaiofgbjicaa
namespace Go.Proofs.Ytinnaiofgbjicaa
open Go.RowKit Go.Proofs.YtinnaiofgbjicaaW.PrintWords
set_option linter.unusedSimpArgs false
set_option linter.unusedVariables false
set_option maxRecDepth 1000000
/-- A message, and where its body lies. -/
structure MH where
  m : M3
  A : Option Addr
  c : Nat
def MH.cells (h : MH) : List Value := [.int .i64 h.m.op, .int .i64 h.m.id, .slice h.A h.m.b.length h.c]
def flatM (L : List MH) : List Value := L.flatMap MH.cells
theorem flatM_append (l m : List MH) : flatM (l ++ m) = flatM l ++ flatM m := by simp [flatM]
theorem flatM_len (l : List MH) : (flatM l).length = l.length * 3 := by
  induction l with
  | nil => rfl
  | cons h l ih => simp only [flatM, List.flatMap_cons, List.length_append, List.length_cons] at *; simp only [MH.cells, List.length_cons, List.length_nil]; omega
theorem flatM_get (L : List MH) (i j : Nat) (hi : i < L.length) (hj : j < 3) : (flatM L)[i * 3 + j]? = (L[i].cells)[j]? := by
  induction L generalizing i with
  | nil => simp at hi
  | cons h L ih =>
    have hl : h.cells.length = 3 := rfl
    show (h.cells ++ flatM L)[i * 3 + j]? = _
    cases i with
    | zero => simp only [Nat.zero_mul, Nat.zero_add, List.getElem_cons_zero]; rw [List.getElem?_append_left (by omega)]
    | succ i =>
      rw [List.getElem?_append_right (by omega), show (i + 1) * 3 + j - h.cells.length = i * 3 + j by omega]
      exact ih i (by simpa using hi)
/-- A row of messages, read. -/
def MRow (w : World) (A : Option Addr) (l : List M3) : Prop := ∀ i (hi : i < l.length), ∃ ad Ab c, A = some ad ∧ w.cell? (ad.add (i * 3)) = some (.int .i64 (l[i].op)) ∧
  w.cell? ⟨(ad.add (i * 3)).block, (ad.add (i * 3)).off + 1, none⟩ = some (.int .i64 (l[i].id)) ∧ w.cell? ⟨(ad.add (i * 3)).block, (ad.add (i * 3)).off + 2, none⟩ = some (.slice Ab (l[i].b.length) c) ∧ BS w Ab l[i].b c
theorem MRow.below {w w1 : World} {A : Option Addr} {l : List M3} (h : MRow w A l) (hb : Below w.heap.size w w1) : MRow w1 A l := by
  intro i hi
  obtain ⟨ad, Ab, c, rfl, h0, h1, h2, h3⟩ := h i hi
  exact ⟨ad, Ab, c, rfl, pw_cell_below hb h0, pw_cell_below hb h1, pw_cell_below hb h2, h3.below hb⟩
/-- A row of messages of the call's own; no body lies in its block. -/
def OwnM (w : World) (base : Nat) (v : Value) (l : List M3) : Prop := ∃ L : List MH, L.map (·.m) = l ∧ w.ownsRow base 49 3 v L.length (flatM L) ∧ ∀ h ∈ L, BS w h.A h.m.b h.c ∧ (0 < h.m.b.length → ∀ ad, h.A = some ad → some ad.block ≠ v.ownBlock)
theorem OwnM.nil (w : World) (base : Nat) : OwnM w base (.slice none 0 0) [] := ⟨[], rfl, own_nil _ _ _ _, fun h hh => by cases hh⟩
theorem OwnM.below {w w1 : World} {base : Nat} {v : Value} {l : List M3} (h : OwnM w base v l) (hb : Below w.heap.size w w1) : OwnM w1 base v l := by
  obtain ⟨L, h0, h1, h2⟩ := h
  exact ⟨L, h0, pw_own_below h1 hb, fun x hx => ⟨(h2 x hx).1.below hb, (h2 x hx).2⟩⟩
theorem OwnM.row {w : World} {base : Nat} {v : Value} {l : List M3} (h : OwnM w base v l) : ∃ A c, v = .slice A l.length c ∧ l.length ≤ c ∧ MRow w A l := by
  obtain ⟨L, rfl, h1, h2⟩ := h
  obtain ⟨A, c, rfl⟩ := own_slice h1
  refine ⟨A, c, by simp, by have := own_le h1; simpa using this, fun i hi => ?_⟩
  have hi' : i < L.length := by simpa using hi
  obtain ⟨g, cap, e, _⟩ := h1.form (by omega)
  injection e with e1 e2 e3
  subst e1
  have hx : (L.map (·.m))[i] = L[i].m := by simp
  have key : ∀ j u, j < 3 → (L[i].cells)[j]? = some u → w.cell? ⟨g, i * 3 + j, none⟩ = some u := fun j u hj hu => by
    have := h1.cells (g := g) rfl (i * 3 + j) u (by rw [flatM_get L i j hi' hj]; exact hu)
    rwa [add_p] at this
  have hr := h2 L[i] (List.getElem_mem _)
  rw [hx]
  refine ⟨_, L[i].A, L[i].c, rfl, ?_, ?_, ?_, hr.1⟩
  · rw [add_p]; exact key 0 _ (by omega) rfl
  · rw [add_p]; exact key 1 _ (by omega) rfl
  · rw [add_p]; exact key 2 _ (by omega) rfl
theorem BS.grown {w w1 : World} {A : Option Addr} {b : List Int} {c : Nat} {row : Option Nat} (h : BS w A b c) (hg : w.grownBy w1 row) (hne : 0 < b.length → ∀ ad, A = some ad → some ad.block ≠ row) : BS w1 A b c :=
  ⟨h.le, h.nil, h.max, ⟨h.rd.1, h.rd.2.1, fun hn => by
    obtain ⟨ad, e, hc⟩ := h.rd.2.2 hn
    exact ⟨ad, e, fun j hj => hg.cell (hc j hj) (fun e1 => hne hn ad e (by rw [← e1, add_blk]))⟩⟩, h.byt⟩
theorem OwnM.snoc {W w1 : World} {base : Nat} {v v1 : Value} {L : List MH} {l : List M3} (x : MH) (hl : L.map (·.m) = l) (hL : ∀ h ∈ L, BS W h.A h.m.b h.c ∧ (0 < h.m.b.length → ∀ ad, h.A = some ad → some ad.block ≠ v.ownBlock))
    (hx : BS W x.A x.m.b x.c ∧ (0 < x.m.b.length → ∀ ad, x.A = some ad → some ad.block ≠ v.ownBlock)) (ho : w1.ownsRow base 49 3 v1 (L.length + 1) (flatM L ++ x.cells)) (hg : W.grownBy w1 v.ownBlock) (hat : v1.ownBlock = v.ownBlock ∨ ∃ b, v1.ownBlock = some b ∧ W.heap.size ≤ b) : OwnM w1 base v1 (l ++ [x.m]) := by
  have key : ∀ h : MH, (BS W h.A h.m.b h.c ∧ (0 < h.m.b.length → ∀ ad, h.A = some ad → some ad.block ≠ v.ownBlock)) → BS w1 h.A h.m.b h.c ∧ (0 < h.m.b.length → ∀ ad, h.A = some ad → some ad.block ≠ v1.ownBlock) := fun h ⟨h1, h2⟩ => by
    refine ⟨h1.grown hg h2, fun hn ad hA => ?_⟩
    rcases hat with e | ⟨b, e, hb⟩
    · rw [e]; exact h2 hn ad hA
    · rw [e]
      obtain ⟨ad', e', hc⟩ := h1.rd.2.2 hn
      rw [hA] at e'; injection e' with e'; subst e'
      have := lt_of_cell (hc 0 hn)
      rw [add_blk] at this
      intro e2; injection e2 with e2; omega
  refine ⟨L ++ [x], by simp [hl], ?_, fun h hh => ?_⟩
  · have e : flatM (L ++ [x]) = flatM L ++ x.cells := by simp [flatM]
    rw [e]; simpa using ho
  · rcases List.mem_append.1 hh with hh | hh
    · exact key h (hL h hh)
    · rw [List.mem_singleton.1 hh]; exact key x hx
theorem info_ms : (Try.prog.info? 49).map (fun i => (i.zero, i.size, i.bytes)) = some (some (.agg #[.int .i64 0, .int .i64 0, .slice none 0 0]), 3, 40) := by kernel_rfl
end Go.Proofs.Ytinnaiofgbjicaa
namespace Go.Proofs.Ytinnaiofgbjicaa
open Go.RowKit Go.Proofs.YtinnaiofgbjicaaW.PrintWords
set_option linter.unusedSimpArgs false
set_option linter.unusedVariables false
set_option maxRecDepth 1000000
theorem readP_err {b : List Int} {i : Int} (h : readP b = .inl i) : i = 2 ∨ i = 3 := by
  unfold readP at h
  split at h
  · injection h with h; omega
  · split at h
    · injection h with h; omega
    · split at h
      · injection h with h; omega
      · cases h
def SplP (w : World) (r : List M3 × Nat × Int) (e : Ending) (w' : World) : Prop := ∃ v, e = .returned (.tuple #[v, .int .i64 r.2.1, .int .i64 r.2.2]) ∧ OwnM w' w.heap.size v r.1 ∧ Below w.heap.size w w'
theorem SplP.mk {w w' : World} {r : List M3 × Nat × Int} {L : List M3} {n : Nat} {i : Int} {v : Value} (h : r = (L, n, i)) (ho : OwnM w' w.heap.size v L) (hb : Below w.heap.size w w') : SplP w r (.returned (.tuple #[v, .int .i64 n, .int .i64 i])) w' := by
  subst h; exact ⟨v, rfl, ho, hb⟩
def RdN (w : World) (i : Int) (e : Ending) (w' : World) : Prop := e = .returned (.tuple #[(.agg #[.int .i64 (0), .int .i64 (0), .slice (none) (0) (0)]), .int .i64 0, .int .i64 i]) ∧ Below w.heap.size w w'
def RdY (w : World) (Q : Nat → Prop) (m : M3) (n : Nat) (e : Ending) (w' : World) : Prop := ∃ A c, e = .returned (.tuple #[(.agg #[.int .i64 (m.op), .int .i64 (m.id), .slice (A) (m.b.length) (c)]), .int .i64 n, .int .i64 0]) ∧ BS w' A m.b c ∧ Below w.heap.size w w' ∧ (0 < m.b.length → ∀ ad, A = some ad → Q ad.block)
set_option maxHeartbeats 2000000 in
theorem ref_Split (A : Option Addr) (b : List Int) (c : Nat) (w : World) (hs : BS w A b c) (hn : b.length ≤ 1000000) : Calls Try.prog 26 #[.slice A b.length c] w (SplP w (splitP b)) := by
  have HS := Lib.hid hs
  have hle := hs.le
  clear hs
  go_enter Try.func26, Try.ntmps26
  go_wp2
  go_loopw [5, 6] (fun v a wr => ∃ (at_ : Nat) (L : List M3) (f : Nat), a = .int .i64 at_ ∧ at_ ≤ b.length ∧ SplitAt b L at_ f ∧ L.length ≤ at_ ∧ OwnM wr w.heap.size v L ∧ Below w.heap.size w wr) (fun _ a _ => b.length - (intOf a).toNat)
  case atStart => exact ⟨0, [], b.length + 1, rfl, by omega, SplitAt.start b, by simp, OwnM.nil _ _, Below.refl _ _⟩
  case round =>
    obtain ⟨at_, L, f, rfl, hat, hsp, hLl, hown, hbr⟩ := hrel
    have hzr := hbr.size
    have HSP := Lib.hid hsp
    have HBR := Lib.hid hbr
    clear hsp
    by_cases hlt : at_ < b.length
    · obtain ⟨ad, rfl, hlo, _⟩ := bs_cells HS.out (by omega)
      have hbd := HS.out.drop at_ hat
      have hl : (b.drop at_).length = b.length - at_ := List.length_drop
      have cR := fun w1 (hb : Below w.heap.size w w1) => ref_Read (some (ad.add at_)) (b.drop at_) (c - at_) w1 (hbd.below hb)
      rw [hl] at cR
      have hac : ¬ c = at_ := by omega
      cases hr : readP (b.drop at_) with
      | inl i =>
        have HU := Lib.hid (SplitAt.stop HS.out.byt HSP.out hlt hr)
        rw [hr] at cR
        have cR : ∀ w1, Below w.heap.size w w1 → Calls Try.prog 39 #[.slice (some (ad.add at_)) (b.length - at_) (c - at_)] w1 (RdN w1 i) := cR
        unfold RdN at cR
        have HO := Lib.hid hown
        have hr' := hr
        clear hr hbd hl hown
        have hi := readP_err hr'
        have hi0 : (i == 0) = false := by simp; omega
        have hi1 : (i != 0) = true := by simp; omega
        clear hr'
        go_wp2_with (first | (go_at_call 39; (with_reducible refine (cR _ ?_).mono ?_); (focus ((repeat (first | (with_reducible exact Below.refl _ _) | ((with_reducible refine Below.alloc ?_ ?hB _); (case hB => (first | omega | (simp; done) | (simp; omega)))) | ((with_reducible refine Below.setCell ?_ ?hB _); (case hB => (first | omega | (simp; done) | (simp; omega)))) | (with_reducible refine Below.drew ?_) | ((with_reducible refine below_ext_of ?_ ?hB); (case hB => (first | omega | (simp; done) | (simp; omega)))) | ((with_reducible refine Below.trans ?_ (Below.mono (by assumption) ?hB)); (case hB => (first | omega | (simp; done) | (simp; omega)))))); done)); rintro en w3 ⟨rfl, hb3⟩; obtain ⟨hc3, hf3⟩ := bcell hb3; have hz3 := hb3.size))
        go_ret3
        exact SplP.mk HU.out (HO.out.below (show Below wr.heap.size wr _ from by (repeat (first | (with_reducible exact Below.refl _ _) | ((with_reducible refine Below.alloc ?_ ?hB _); (case hB => (first | omega | (simp; done) | (simp; omega)))) | ((with_reducible refine Below.setCell ?_ ?hB _); (case hB => (first | omega | (simp; done) | (simp; omega)))) | (with_reducible refine Below.drew ?_) | ((with_reducible refine below_ext_of ?_ ?hB); (case hB => (first | omega | (simp; done) | (simp; omega)))) | ((with_reducible refine Below.trans ?_ (Below.mono (by assumption) ?hB)); (case hB => (first | omega | (simp; done) | (simp; omega)))))))) (HBR.out.trans (Below.mono (show Below wr.heap.size wr _ from by (repeat (first | (with_reducible exact Below.refl _ _) | ((with_reducible refine Below.alloc ?_ ?hB _); (case hB => (first | omega | (simp; done) | (simp; omega)))) | ((with_reducible refine Below.setCell ?_ ?hB _); (case hB => (first | omega | (simp; done) | (simp; omega)))) | (with_reducible refine Below.drew ?_) | ((with_reducible refine below_ext_of ?_ ?hB); (case hB => (first | omega | (simp; done) | (simp; omega)))) | ((with_reducible refine Below.trans ?_ (Below.mono (by assumption) ?hB)); (case hB => (first | omega | (simp; done) | (simp; omega))))))) hzr))
      | inr mn =>
        obtain ⟨m, n⟩ := mn
        have HU := Lib.hid (SplitAt.step HS.out.byt HSP.out hr)
        have hnn := readP_n (HS.out.byt.drop at_) hr
        rw [hr] at cR
        have cR : ∀ w1, Below w.heap.size w w1 → Calls Try.prog 39 #[.slice (some (ad.add at_)) (b.length - at_) (c - at_)] w1 (RdY w1 (fun g => ∃ ad', some (ad.add at_) = some ad' ∧ g = ad'.block) m n) := cR
        unfold RdY at cR
        obtain ⟨n1, n2, _⟩ := hnn
        obtain ⟨LH, hLH, hoL, hLs⟩ := hown
        have hLn : LH.length = L.length := by rw [← hLH]; simp
        have HLH := Lib.hid (And.intro hLH hLs)
        have hL6 : LH.length ≤ 1000000 := by omega
        clear hr hbd hLH hLs hLn
        go_wp2_with (first | (go_at_call 39; (with_reducible refine (cR _ ?_).mono ?_); (focus ((repeat (first | (with_reducible exact Below.refl _ _) | ((with_reducible refine Below.alloc ?_ ?hB _); (case hB => (first | omega | (simp; done) | (simp; omega)))) | ((with_reducible refine Below.setCell ?_ ?hB _); (case hB => (first | omega | (simp; done) | (simp; omega)))) | (with_reducible refine Below.drew ?_) | ((with_reducible refine below_ext_of ?_ ?hB); (case hB => (first | omega | (simp; done) | (simp; omega)))) | ((with_reducible refine Below.trans ?_ (Below.mono (by assumption) ?hB)); (case hB => (first | omega | (simp; done) | (simp; omega)))))); done)); rintro en w3 ⟨A3, c3, rfl, hs3, hb3, hq3⟩; have hz3 := hb3.size; replace hs3 := Lib.hid hs3; replace hq3 := Lib.hid hq3) | (at_builtin; refine print_append_cells (w0 := w) w.heap.size rfl _ _ 60 49 _ 3 40 rfl Try.underlying60 info_ms rfl (by decide) (by decide) _ _ _ [.int .i64 m.op, .int .i64 m.id, .slice A3 m.b.length c3] rfl ?_ rfl ?_ (pw_own_below hoL ?_) ?_ ?_ ?_ ?_; (focus (go_simp; done)); (focus (simp [Value.oneCell']; done)); (focus ((repeat (first | (with_reducible exact Below.refl _ _) | ((with_reducible refine Below.alloc ?_ ?hB _); (case hB => (first | omega | (simp; done) | (simp; omega)))) | ((with_reducible refine Below.setCell ?_ ?hB _); (case hB => (first | omega | (simp; done) | (simp; omega)))) | (with_reducible refine Below.drew ?_) | ((with_reducible refine below_ext_of ?_ ?hB); (case hB => (first | omega | (simp; done) | (simp; omega)))) | ((with_reducible refine Below.trans ?_ (Below.mono (by assumption) ?hB)); (case hB => (first | omega | (simp; done) | (simp; omega)))))); done)); (focus ((repeat (first | (with_reducible exact Below.refl _ _) | ((with_reducible refine Below.alloc ?_ ?hB _); (case hB => (first | omega | (simp; done) | (simp; omega)))) | ((with_reducible refine Below.setCell ?_ ?hB _); (case hB => (first | omega | (simp; done) | (simp; omega)))) | (with_reducible refine Below.drew ?_) | ((with_reducible refine below_ext_of ?_ ?hB); (case hB => (first | omega | (simp; done) | (simp; omega)))) | ((with_reducible refine Below.trans ?_ (Below.mono (by assumption) ?hB)); (case hB => (first | omega | (simp; done) | (simp; omega)))))); done)); (focus ((first | omega | (simp; done) | (simp; omega)); done)); (focus omega); intro v4 w4 hown4 hb4 hg4 hat4; have hz4 := hb4.size))
        have hbW : Below wr.heap.size wr (w3.alloc (.cells #[.int .i64 m.op, .int .i64 m.id, .slice A3 m.b.length c3] 49)) := by (repeat (first | (with_reducible exact Below.refl _ _) | ((with_reducible refine Below.alloc ?_ ?hB _); (case hB => (first | omega | (simp; done) | (simp; omega)))) | ((with_reducible refine Below.setCell ?_ ?hB _); (case hB => (first | omega | (simp; done) | (simp; omega)))) | (with_reducible refine Below.drew ?_) | ((with_reducible refine below_ext_of ?_ ?hB); (case hB => (first | omega | (simp; done) | (simp; omega)))) | ((with_reducible refine Below.trans ?_ (Below.mono (by assumption) ?hB)); (case hB => (first | omega | (simp; done) | (simp; omega))))))
        have hbW3 : Below w3.heap.size w3 (w3.alloc (.cells #[.int .i64 m.op, .int .i64 m.id, .slice A3 m.b.length c3] 49)) := by (repeat (first | (with_reducible exact Below.refl _ _) | ((with_reducible refine Below.alloc ?_ ?hB _); (case hB => (first | omega | (simp; done) | (simp; omega)))) | ((with_reducible refine Below.setCell ?_ ?hB _); (case hB => (first | omega | (simp; done) | (simp; omega)))) | (with_reducible refine Below.drew ?_) | ((with_reducible refine below_ext_of ?_ ?hB); (case hB => (first | omega | (simp; done) | (simp; omega)))) | ((with_reducible refine Below.trans ?_ (Below.mono (by assumption) ?hB)); (case hB => (first | omega | (simp; done) | (simp; omega))))))
        have hsn : OwnM w4 w.heap.size v4 (L ++ [m]) := OwnM.snoc ⟨m, A3, c3⟩ HLH.out.1 (fun h hh => ⟨(HLH.out.2 h hh).1.below hbW, (HLH.out.2 h hh).2⟩) ⟨hs3.out.below hbW3, fun h0 a hA e => by
          obtain ⟨ad', e1, e2⟩ := hq3.out h0 a hA
          injection e1 with e1
          have h5 := (World.ownsRow.lt hoL _ e.symm).1
          rw [e2, ← e1, add_blk] at h5
          omega⟩ hown4 hg4 hat4
        have HSN := Lib.hid hsn
        clear hsn hbW hbW3
        go_roundw
        case rel => exact ⟨at_ + n, L ++ [m], f - 1, by go_num, by omega, HU.out, by simp; omega, HSN.out, hb4⟩
        case measure => simp [intOf]; omega
    · have HU := Lib.hid (SplitAt.end_ HSP.out hlt)
      obtain rfl : at_ = b.length := by omega
      have HO := Lib.hid hown
      clear hown
      go_wp2
      go_ret3
      exact SplP.mk HU.out HO.out HBR.out
end Go.Proofs.Ytinnaiofgbjicaa
namespace Go.Proofs.Ytinnaiofgbjicaa
open Go.RowKit Go.Proofs.YtinnaiofgbjicaaW.PrintWords
set_option linter.unusedSimpArgs false
set_option linter.unusedVariables false
set_option maxRecDepth 1000000
set_option maxHeartbeats 2000000 in
theorem frame_Split (A : Option Addr) (b : List Int) (c : Nat) (w : World) (hs : BS w A b c) (hn : b.length ≤ 1000000) : Calls Try.prog 24 #[.slice A b.length c] w (SplP w (splitP b)) := by
  have HS := Lib.hid hs
  have hle := hs.le
  clear hs
  go_enter Try.func24, Try.ntmps24
  go_wp2
  go_step3
  go_wp2
  go_step3
  go_wp2
  go_loopw [5, 6] (fun v a wr => ∃ (at_ : Nat) (L : List M3) (f : Nat), a = .int .i64 at_ ∧ at_ ≤ b.length ∧ SplitAt b L at_ f ∧ L.length ≤ at_ ∧ OwnM wr w.heap.size v L ∧ Below w.heap.size w wr) (fun _ a _ => b.length - (intOf a).toNat)
  case atStart => exact ⟨0, [], b.length + 1, rfl, by omega, SplitAt.start b, by simp, OwnM.nil _ _, Below.refl _ _⟩
  case round =>
    obtain ⟨at_, L, f, rfl, hat, hsp, hLl, hown, hbr⟩ := hrel
    have hzr := hbr.size
    have HSP := Lib.hid hsp
    have HBR := Lib.hid hbr
    clear hsp
    by_cases hlt : at_ < b.length
    · obtain ⟨ad, rfl, hlo, _⟩ := bs_cells HS.out (by omega)
      have hbd0 := HS.out.drop at_ hat
      have hbd : BS w (some (ad.add at_)) (b.drop at_) (b.length - at_) := ⟨by rw [List.length_drop]; exact Nat.le_refl _, (fun e => by cases e), by have := HS.out.max; omega, hbd0.rd, hbd0.byt⟩
      clear hbd0
      have hl : (b.drop at_).length = b.length - at_ := List.length_drop
      have cR := fun w1 (hb : Below w.heap.size w w1) => frame_Read (some (ad.add at_)) (b.drop at_) (b.length - at_) w1 (hbd.below hb)
      rw [hl] at cR
      have hac : ¬ c = at_ := by omega
      cases hr : readP (b.drop at_) with
      | inl i =>
        have HU := Lib.hid (SplitAt.stop HS.out.byt HSP.out hlt hr)
        rw [hr] at cR
        have cR : ∀ w1, Below w.heap.size w w1 → Calls Try.prog 36 #[.slice (some (ad.add at_)) (b.length - at_) (b.length - at_)] w1 (RdN w1 i) := cR
        unfold RdN at cR
        have HO := Lib.hid hown
        have hr' := hr
        clear hr hbd hl hown
        have hi := readP_err hr'
        have hi0 : (i == 0) = false := by simp; omega
        have hi1 : (i != 0) = true := by simp; omega
        clear hr'
        go_wp2_with (first | (go_at_call 36; (with_reducible refine (cR _ ?_).mono ?_); (focus ((repeat (first | (with_reducible exact Below.refl _ _) | ((with_reducible refine Below.alloc ?_ ?hB _); (case hB => (first | omega | (simp; done) | (simp; omega)))) | ((with_reducible refine Below.setCell ?_ ?hB _); (case hB => (first | omega | (simp; done) | (simp; omega)))) | (with_reducible refine Below.drew ?_) | ((with_reducible refine below_ext_of ?_ ?hB); (case hB => (first | omega | (simp; done) | (simp; omega)))) | ((with_reducible refine Below.trans ?_ (Below.mono (by assumption) ?hB)); (case hB => (first | omega | (simp; done) | (simp; omega)))))); done)); rintro en w3 ⟨rfl, hb3⟩; obtain ⟨hc3, hf3⟩ := bcell hb3; have hz3 := hb3.size))
        go_ret3
        exact SplP.mk HU.out (HO.out.below (show Below wr.heap.size wr _ from by (repeat (first | (with_reducible exact Below.refl _ _) | ((with_reducible refine Below.alloc ?_ ?hB _); (case hB => (first | omega | (simp; done) | (simp; omega)))) | ((with_reducible refine Below.setCell ?_ ?hB _); (case hB => (first | omega | (simp; done) | (simp; omega)))) | (with_reducible refine Below.drew ?_) | ((with_reducible refine below_ext_of ?_ ?hB); (case hB => (first | omega | (simp; done) | (simp; omega)))) | ((with_reducible refine Below.trans ?_ (Below.mono (by assumption) ?hB)); (case hB => (first | omega | (simp; done) | (simp; omega)))))))) (HBR.out.trans (Below.mono (show Below wr.heap.size wr _ from by (repeat (first | (with_reducible exact Below.refl _ _) | ((with_reducible refine Below.alloc ?_ ?hB _); (case hB => (first | omega | (simp; done) | (simp; omega)))) | ((with_reducible refine Below.setCell ?_ ?hB _); (case hB => (first | omega | (simp; done) | (simp; omega)))) | (with_reducible refine Below.drew ?_) | ((with_reducible refine below_ext_of ?_ ?hB); (case hB => (first | omega | (simp; done) | (simp; omega)))) | ((with_reducible refine Below.trans ?_ (Below.mono (by assumption) ?hB)); (case hB => (first | omega | (simp; done) | (simp; omega))))))) hzr))
      | inr mn =>
        obtain ⟨m, n⟩ := mn
        have HU := Lib.hid (SplitAt.step HS.out.byt HSP.out hr)
        have hnn := readP_n (HS.out.byt.drop at_) hr
        rw [hr] at cR
        have cR : ∀ w1, Below w.heap.size w w1 → Calls Try.prog 36 #[.slice (some (ad.add at_)) (b.length - at_) (b.length - at_)] w1 (RdY w1 (fun g => w1.heap.size ≤ g) m n) := cR
        unfold RdY at cR
        obtain ⟨n1, n2, _⟩ := hnn
        obtain ⟨LH, hLH, hoL, hLs⟩ := hown
        have hLn : LH.length = L.length := by rw [← hLH]; simp
        have HLH := Lib.hid (And.intro hLH hLs)
        have hL6 : LH.length ≤ 1000000 := by omega
        clear hr hbd hLH hLs hLn
        go_wp2_with (first | (go_at_call 36; (with_reducible refine (cR _ ?_).mono ?_); (focus ((repeat (first | (with_reducible exact Below.refl _ _) | ((with_reducible refine Below.alloc ?_ ?hB _); (case hB => (first | omega | (simp; done) | (simp; omega)))) | ((with_reducible refine Below.setCell ?_ ?hB _); (case hB => (first | omega | (simp; done) | (simp; omega)))) | (with_reducible refine Below.drew ?_) | ((with_reducible refine below_ext_of ?_ ?hB); (case hB => (first | omega | (simp; done) | (simp; omega)))) | ((with_reducible refine Below.trans ?_ (Below.mono (by assumption) ?hB)); (case hB => (first | omega | (simp; done) | (simp; omega)))))); done)); rintro en w3 ⟨A3, c3, rfl, hs3, hb3, hq3⟩; have hz3 := hb3.size; replace hs3 := Lib.hid hs3; replace hq3 := Lib.hid hq3) | (at_builtin; refine print_append_cells (w0 := w) w.heap.size rfl _ _ 60 49 _ 3 40 rfl Try.underlying60 info_ms rfl (by decide) (by decide) _ _ _ [.int .i64 m.op, .int .i64 m.id, .slice A3 m.b.length c3] rfl ?_ rfl ?_ (pw_own_below hoL ?_) ?_ ?_ ?_ ?_; (focus (go_simp; done)); (focus (simp [Value.oneCell']; done)); (focus ((repeat (first | (with_reducible exact Below.refl _ _) | ((with_reducible refine Below.alloc ?_ ?hB _); (case hB => (first | omega | (simp; done) | (simp; omega)))) | ((with_reducible refine Below.setCell ?_ ?hB _); (case hB => (first | omega | (simp; done) | (simp; omega)))) | (with_reducible refine Below.drew ?_) | ((with_reducible refine below_ext_of ?_ ?hB); (case hB => (first | omega | (simp; done) | (simp; omega)))) | ((with_reducible refine Below.trans ?_ (Below.mono (by assumption) ?hB)); (case hB => (first | omega | (simp; done) | (simp; omega)))))); done)); (focus ((repeat (first | (with_reducible exact Below.refl _ _) | ((with_reducible refine Below.alloc ?_ ?hB _); (case hB => (first | omega | (simp; done) | (simp; omega)))) | ((with_reducible refine Below.setCell ?_ ?hB _); (case hB => (first | omega | (simp; done) | (simp; omega)))) | (with_reducible refine Below.drew ?_) | ((with_reducible refine below_ext_of ?_ ?hB); (case hB => (first | omega | (simp; done) | (simp; omega)))) | ((with_reducible refine Below.trans ?_ (Below.mono (by assumption) ?hB)); (case hB => (first | omega | (simp; done) | (simp; omega)))))); done)); (focus ((first | omega | (simp; done) | (simp; omega)); done)); (focus omega); intro v4 w4 hown4 hb4 hg4 hat4; have hz4 := hb4.size))
        have hbW : Below wr.heap.size wr (w3.alloc (.cells #[.int .i64 m.op, .int .i64 m.id, .slice A3 m.b.length c3] 49)) := by (repeat (first | (with_reducible exact Below.refl _ _) | ((with_reducible refine Below.alloc ?_ ?hB _); (case hB => (first | omega | (simp; done) | (simp; omega)))) | ((with_reducible refine Below.setCell ?_ ?hB _); (case hB => (first | omega | (simp; done) | (simp; omega)))) | (with_reducible refine Below.drew ?_) | ((with_reducible refine below_ext_of ?_ ?hB); (case hB => (first | omega | (simp; done) | (simp; omega)))) | ((with_reducible refine Below.trans ?_ (Below.mono (by assumption) ?hB)); (case hB => (first | omega | (simp; done) | (simp; omega))))))
        have hbW3 : Below w3.heap.size w3 (w3.alloc (.cells #[.int .i64 m.op, .int .i64 m.id, .slice A3 m.b.length c3] 49)) := by (repeat (first | (with_reducible exact Below.refl _ _) | ((with_reducible refine Below.alloc ?_ ?hB _); (case hB => (first | omega | (simp; done) | (simp; omega)))) | ((with_reducible refine Below.setCell ?_ ?hB _); (case hB => (first | omega | (simp; done) | (simp; omega)))) | (with_reducible refine Below.drew ?_) | ((with_reducible refine below_ext_of ?_ ?hB); (case hB => (first | omega | (simp; done) | (simp; omega)))) | ((with_reducible refine Below.trans ?_ (Below.mono (by assumption) ?hB)); (case hB => (first | omega | (simp; done) | (simp; omega))))))
        have hsn : OwnM w4 w.heap.size v4 (L ++ [m]) := OwnM.snoc ⟨m, A3, c3⟩ HLH.out.1 (fun h hh => ⟨(HLH.out.2 h hh).1.below hbW, (HLH.out.2 h hh).2⟩) ⟨hs3.out.below hbW3, fun h0 a hA e => by
          have e2 := hq3.out h0 a hA
          have h5 := (World.ownsRow.lt hoL _ e.symm).2
          omega⟩ hown4 hg4 hat4
        have HSN := Lib.hid hsn
        clear hsn hbW hbW3
        go_roundw
        case rel => exact ⟨at_ + n, L ++ [m], f - 1, by go_num, by omega, HU.out, by simp; omega, HSN.out, hb4⟩
        case measure => simp [intOf]; omega
    · have HU := Lib.hid (SplitAt.end_ HSP.out hlt)
      obtain rfl : at_ = b.length := by omega
      have HO := Lib.hid hown
      clear hown
      go_wp2
      go_ret3
      exact SplP.mk HU.out HO.out HBR.out
end Go.Proofs.Ytinnaiofgbjicaa
namespace Go.Proofs.Ytinnaiofgbjicaa
open Go.RowKit Go.Proofs.YtinnaiofgbjicaaW.PrintWords
set_option linter.unusedSimpArgs false
set_option linter.unusedVariables false
set_option maxRecDepth 1000000
theorem formE_let (k : Int) (i : Nat) (h : i < (formE k).size) : byN (formE k) i = 105 ∨ byN (formE k) i = 117 := by
  have h2 : i = 0 ∨ i = 1 := by have := formE_len k; omega
  unfold formE at *
  split
  · rcases h2 with rfl | rfl <;> exact .inr (by decide +kernel)
  · rename_i h1
    rw [if_neg h1] at h
    split
    · rename_i h3
      rw [if_pos h3] at h
      rcases h2 with rfl | rfl
      · exact .inr (by decide +kernel)
      · exact absurd h (by decide +kernel)
    · rename_i h3
      rw [if_neg h3] at h
      split
      · rcases h2 with rfl | rfl <;> exact .inl (by decide +kernel)
      · rename_i h4
        rw [if_neg h4] at h
        exact absurd h (by show ¬ i < 0; omega)
theorem unpackFrom_ints {f : ByteArray} {b : List Int} (hb : Byt b) (hf : ∀ i, i < f.size → byN f i = 105 ∨ byN f i = 117) : ∀ (k : Nat) (l : List V8) (r : List Int), k ≤ f.size → unpackFrom f b k = some (l, r) → l.length = k ∧ Byt r ∧ ∀ x ∈ l, x.kind = 0 ∧ -2147483648 ≤ x.n ∧ x.n ≤ 4294967295
  | 0, l, r, _, h => by injection h with h; injection h with h1 h2; subst h1; subst h2; exact ⟨rfl, hb, fun x hx => by cases hx⟩
  | k + 1, l, r, hk, h => by
    unfold unpackFrom at h
    split at h
    · cases h
    · rename_i l1 r1 h1
      split at h
      · cases h
      · rename_i x r2 h2
        injection h with h; injection h with e1 e2; subst e1; subst e2
        obtain ⟨a1, a2, a3⟩ := unpackFrom_ints hb hf k l1 r1 (by omega) h1
        have hx : x.kind = 0 ∧ -2147483648 ≤ x.n ∧ x.n ≤ 4294967295 := by
          have hu := numU_bd a2
          have hsg := signN_bd hu
          rcases hf k (by omega) with e | e
          · rw [e] at h2; unfold oneP at h2; rw [if_pos rfl] at h2
            split at h2
            · cases h2
            · injection h2 with h2; injection h2 with e1 e2; subst e1
              exact ⟨rfl, by simp only; omega, by simp only; omega⟩
          · rw [e] at h2; unfold oneP at h2; rw [if_neg (by decide), if_pos rfl] at h2
            split at h2
            · cases h2
            · injection h2 with h2; injection h2 with e1 e2; subst e1
              exact ⟨rfl, by simp only; omega, by simp only; omega⟩
        refine ⟨by simp [a1], (oneP_byt a2 h2).1, fun y hy => ?_⟩
        rcases List.mem_append.1 hy with hy | hy
        · exact a3 y hy
        · rw [List.mem_singleton.1 hy]; exact hx
theorem unp_ints {k : Int} {b : List Int} {l : List V8} (hb : Byt b) (h : unpackP (formE k) b = (0, l)) : l.length = (formE k).size ∧ ∀ x ∈ l, x.kind = 0 ∧ -2147483648 ≤ x.n ∧ x.n ≤ 4294967295 := by
  unfold unpackP at h
  split at h
  · split at h
    · injection h with h; omega
    · rename_i l1 r1 h1
      have := unpackFrom_ints hb (formE_let k) _ _ _ (Nat.le_refl _) h1
      split at h
      · injection h with _ h; subst h; exact ⟨this.1, this.2.2⟩
      · injection h with h; omega
  · injection h with h; omega
theorem anyInt_bd {l : List V8} (h : ∀ x ∈ l, x.kind = 0 ∧ -2147483648 ≤ x.n ∧ x.n ≤ 4294967295) (i : Nat) : -2147483648 ≤ anyInt (at8 l i) ∧ anyInt (at8 l i) ≤ 4294967295 ∧ anyInt (at8 l i) = (at8 l i).n := by
  by_cases hi : i < l.length
  · have := h _ (at8_mem hi)
    unfold anyInt; rw [if_pos this.1]; exact ⟨this.2.1, this.2.2, rfl⟩
  · rw [at8_out l i (by omega)]; exact ⟨by decide, by decide, rfl⟩
theorem ints_nob {l : List V8} (h : ∀ x ∈ l, x.kind = 0 ∧ -2147483648 ≤ x.n ∧ x.n ≤ 4294967295) : NoB l := fun i hi e => by
  have := (h _ (at8_mem hi)).1; omega
/-- Messages that bytes may hold. -/
def MsgOk (m : M3) : Prop := 0 ≤ m.op ∧ m.op ≤ 255 ∧ 0 ≤ m.id ∧ m.id ≤ 4294967295 ∧ m.b.length ≤ 1000000 ∧ Byt m.b
theorem ev_one (m : M3) (A : Option Addr) (c : Nat) (w : World) (hs : BS w A m.b c) (hm : MsgOk m) : Calls Try.prog 25 #[(.agg #[.int .i64 (m.op), .int .i64 (m.id), .slice (A) (m.b.length) (c)])] w (OnP w (oneE m.op m.id m.b)) := by
  obtain ⟨op, id, mb⟩ := m
  obtain ⟨h1, h2, h3, h4, h5, h6⟩ := hm
  simp only at *
  unfold oneE
  by_cases hi : isE (op - 128) = true
  · rw [if_pos hi]
    rcases hu : unpackP (formE (op - 128)) mb with ⟨i, l⟩
    simp only
    by_cases h0 : i = 0
    · subst h0
      rw [if_pos rfl]
      have hx := unp_ints h6 hu
      have hk : 0 ≤ op - 128 ∧ op - 128 ≤ 5 := of_decide_eq_true hi
      have b0 := anyInt_bd hx.2 0; have b1 := anyInt_bd hx.2 1
      exact one_ok op id mb A c w hs h5 (by omega) h1 hi l hu (by have := formE_len (op - 128); omega) (ints_nob hx.2) _ _ rfl rfl ⟨by simp only; omega, by simp only; omega, by simp only; omega, by simp only; omega⟩
    · rw [if_neg h0]
      exact one_err op id mb A c w hs h5 (by omega) h1 hi i l hu h0
  · rw [if_neg hi]
    exact one_not op id mb A c w (by omega) h1 (Bool.eq_false_iff.2 hi)
theorem readP_msg {b : List Int} {m : M3} {n : Nat} (hb : Byt b) (h : readP b = .inr (m, n)) : MsgOk m := by
  rcases readP_cases b hb with h1 | ⟨h1, hn⟩ | ⟨h1, h7, h8, hl⟩ | ⟨h1, k, hk, h7, h8, hl⟩
  · rw [readP_short h1] at h; cases h
  · rw [readP_form h1 hn] at h; cases h
  · rw [readP_less h1 h7 h8 hl] at h; cases h
  · rw [readP_ok h1 hk h7 h8 hl] at h; injection h with h; injection h with e1 e2
    subst e1
    have y2 := hb.at_ 2
    have yu := numU_bd (hb.drop 3)
    refine ⟨by simp only; omega, by simp only; omega, by simp only; omega, by simp only; omega, ?_, (hb.take k).drop 7⟩
    simp only [List.length_drop, List.length_take]; omega
theorem splitF_msgs : ∀ (f : Nat) (b : List Int), Byt b → (splitF f b).1.length ≤ b.length ∧ ∀ m ∈ (splitF f b).1, MsgOk m
  | 0, b, _ => ⟨by simp [splitF], fun m hm => by cases hm⟩
  | f + 1, b, hb => by
    unfold splitF
    split
    · exact ⟨by simp, fun m hm => by cases hm⟩
    · split
      · exact ⟨by simp, fun m hm => by cases hm⟩
      · rename_i m n hr
        have ih := splitF_msgs f (b.drop n) (hb.drop n)
        have hn := readP_n hb hr
        simp only [List.length_cons, List.length_drop] at ih ⊢
        refine ⟨by omega, fun x hx => ?_⟩
        rcases List.mem_cons.1 hx with rfl | hx
        · exact readP_msg hb hr
        · exact ih.2 x hx
theorem splitP_msgs (b : List Int) (hb : Byt b) : (splitP b).1.length ≤ b.length ∧ ∀ m ∈ (splitP b).1, MsgOk m := splitF_msgs _ b hb
theorem splitF_err : ∀ (f : Nat) (b : List Int), (splitF f b).2.2 = 0 ∨ (splitF f b).2.2 = 2 ∨ (splitF f b).2.2 = 3
  | 0, b => by left; rfl
  | f + 1, b => by
    unfold splitF
    split
    · left; rfl
    · split
      · rename_i i hr; right; exact readP_err hr
      · rename_i m n hr; exact splitF_err f _
theorem splitP_err (b : List Int) : (splitP b).2.2 = 0 ∨ (splitP b).2.2 = 2 ∨ (splitP b).2.2 = 3 := splitF_err _ b
def m0 : M3 := ⟨0, 0, []⟩
def atM (L : List M3) (k : Nat) : M3 := L.getD k m0
theorem atM_get {l : List M3} {i : Nat} (h : i < l.length) : atM l i = l[i] := by unfold atM; rw [List.getD_eq_getElem?_getD, List.getElem?_eq_getElem h]; rfl
theorem atM_mem {l : List M3} {i : Nat} (h : i < l.length) : atM l i ∈ l := by rw [atM_get h]; exact List.getElem_mem _
/-- The events of the first messages, or the first error. -/
def evsFrom (L : List M3) : Nat → Int ⊕ List E4
  | 0 => .inr []
  | k + 1 => match evsFrom L k with
    | .inl i => .inl i
    | .inr l => if (oneE (atM L k).op (atM L k).id (atM L k).b).1 = 0 then .inr (l ++ [(oneE (atM L k).op (atM L k).id (atM L k).b).2]) else .inl (oneE (atM L k).op (atM L k).id (atM L k).b).1
theorem evsFrom_yes {L : List M3} {k : Nat} {l : List E4} {e : E4} (h : evsFrom L k = .inr l) (h1 : oneE (atM L k).op (atM L k).id (atM L k).b = (0, e)) : evsFrom L (k + 1) = .inr (l ++ [e]) := by
  unfold evsFrom; rw [h]; simp only [h1, if_true]
theorem evsFrom_no {L : List M3} {k : Nat} {l : List E4} {i : Int} {e : E4} (h : evsFrom L k = .inr l) (h1 : oneE (atM L k).op (atM L k).id (atM L k).b = (i, e)) (h0 : ¬ i = 0) : evsFrom L (k + 1) = .inl i := by
  unfold evsFrom; rw [h]; simp only [h1, if_neg h0]
theorem evsFrom_inl {L : List M3} {k : Nat} {i : Int} (h : evsFrom L k = .inl i) : ∀ j, evsFrom L (k + j) = .inl i
  | 0 => h
  | j + 1 => by
    have := evsFrom_inl h j
    show evsFrom L ((k + j) + 1) = .inl i
    unfold evsFrom; rw [this]
/-- The events of bytes: the error's number, the events. -/
def readE (b : List Int) : Int × List E4 := match evsFrom (splitP b).1 (splitP b).1.length with
  | .inl i => (i, [])
  | .inr l => if (splitP b).2.2 = 0 then (0, l) else ((splitP b).2.2, [])
theorem readE_inl {b : List Int} {L : List M3} {n : Nat} {e : Int} {k : Nat} {i : Int} (hs : splitP b = (L, n, e)) (hk : k ≤ L.length) (h : evsFrom L k = .inl i) : readE b = (i, []) := by
  unfold readE; rw [hs]; simp only
  have := evsFrom_inl h (L.length - k)
  rw [show k + (L.length - k) = L.length by omega] at this
  rw [this]
theorem readE_err {b : List Int} {L : List M3} {n : Nat} {e : Int} {l : List E4} (hs : splitP b = (L, n, e)) (h : evsFrom L L.length = .inr l) (h0 : ¬ e = 0) : readE b = (e, []) := by
  unfold readE; rw [hs]; simp only; rw [h]; simp only; rw [if_neg h0]
theorem readE_ok {b : List Int} {L : List M3} {n : Nat} {l : List E4} (hs : splitP b = (L, n, 0)) (h : evsFrom L L.length = .inr l) : readE b = (0, l) := by
  unfold readE; rw [hs]; simp only; rw [h]; rfl
theorem evsFrom_may {L : List M3} : ∀ (k : Nat) (l : List E4), evsFrom L k = .inr l → l.length = k ∧ ∀ e ∈ l, mayE e = true
  | 0, l, h => by injection h with h; subst h; exact ⟨rfl, fun e he => by cases he⟩
  | k + 1, l, h => by
    unfold evsFrom at h
    split at h
    · cases h
    · rename_i l1 h1
      have ih := evsFrom_may k l1 h1
      split at h
      · rename_i h2
        injection h with h; subst h
        refine ⟨by simp [ih.1], fun e he => ?_⟩
        rcases List.mem_append.1 he with he | he
        · exact ih.2 e he
        · rw [List.mem_singleton.1 he]
          revert h2
          unfold oneE
          split
          · split
            · split
              · rename_i h5; intro _; exact h5
              · intro h2; exact absurd h2 (by decide)
            · rename_i h5; intro h2; exact absurd h2 h5
          · intro h2; exact absurd h2 (by decide)
      · cases h
theorem readE_may (b : List Int) (hb : Byt b) : (readE b).2.length ≤ b.length ∧ ∀ e ∈ (readE b).2, mayE e = true := by
  unfold readE
  split
  · exact ⟨by simp, fun e he => by cases he⟩
  · rename_i l h
    have := evsFrom_may _ _ h
    have h2 := (splitP_msgs b hb).1
    split
    · exact ⟨by simp only; omega, this.2⟩
    · exact ⟨by simp, fun e he => by cases he⟩
end Go.Proofs.Ytinnaiofgbjicaa
namespace Go.Proofs.Ytinnaiofgbjicaa
open Go.RowKit Go.Proofs.YtinnaiofgbjicaaW.PrintWords
set_option linter.unusedSimpArgs false
set_option linter.unusedVariables false
set_option maxRecDepth 1000000
def RdE (w : World) (t : TypeId) (r : Int × List E4) (en : Ending) (w' : World) : Prop := ∃ v, en = .returned (.tuple #[v, .int .i64 r.1]) ∧ OwnE w' w.heap.size t v r.2 ∧ Below w.heap.size w w'
theorem RdE.mk {w w' : World} {t : TypeId} {r : Int × List E4} {i : Int} {l : List E4} {v : Value} (h : r = (i, l)) (ho : OwnE w' w.heap.size t v l) (hb : Below w.heap.size w w') : RdE w t r (.returned (.tuple #[v, .int .i64 i])) w' := by
  subst h; exact ⟨v, rfl, ho, hb⟩
theorem RdE.err {w w' : World} {t : TypeId} {r : Int × List E4} {i : Int} (h : r = (i, [])) (hb : Below w.heap.size w w') : RdE w t r (.returned (.tuple #[.slice none 0 0, .int .i64 i])) w' := RdE.mk h (OwnE.nil _ _ _) hb
set_option maxHeartbeats 2000000 in
theorem ev_Read (A : Option Addr) (b : List Int) (c : Nat) (w : World) (hs : BS w A b c) (hn : b.length ≤ 1000000) : Calls Try.prog 13 #[.slice A b.length c] w (RdE w 35 (readE b)) := by
  rcases hsp : splitP b with ⟨L, n, er⟩
  have HSP := Lib.hid hsp
  have cS : Calls Try.prog 24 #[.slice A b.length c] w (fun e w' => ∃ v, e = .returned (.tuple #[v, .int .i64 n, .int .i64 er]) ∧ OwnM w' w.heap.size v L ∧ Below w.heap.size w w') := by
    have := frame_Split A b c w hs hn
    rw [hsp] at this; exact this
  have hms := splitP_msgs b hs.byt
  rw [hsp] at hms
  have her : er = 0 ∨ er = 2 ∨ er = 3 := by have := splitP_err b; rw [hsp] at this; exact this
  have hLn : L.length ≤ 1000000 := by have := hms.1; simp only at this; omega
  have HMS := Lib.hid hms.2
  clear hsp hs hms
  go_enter Try.func13, Try.ntmps13
  go_wp2_with (first | (go_at_call 24; (with_reducible refine cS.mono ?_); rintro en w1 ⟨v1, rfl, ho1, hb1⟩; obtain ⟨A1, c1, rfl, hlc1, hr1⟩ := ho1.row; clear ho1; have hz1 := hb1.size; replace hr1 := Lib.hid hr1))
  go_loopw [7, 20] (fun v i wr => ∃ (k : Nat) (l : List E4), k ≤ L.length ∧ i = .int .i64 k ∧ evsFrom L k = .inr l ∧ l.length = k ∧ Below w1.heap.size w1 wr ∧ OwnE wr w1.heap.size 35 v l) (fun _ i _ => L.length - (intOf i).toNat)
  case atStart => exact ⟨0, [], by omega, rfl, rfl, rfl, Below.refl _ _, OwnE.nil _ _ _⟩
  case round =>
    obtain ⟨k, l, hk, rfl, hu, hll, hbr, hown⟩ := hrel
    have hzr := hbr.size
    have HUU := Lib.hid hu
    have HB1 := Lib.hid hb1
    have HBR := Lib.hid hbr
    clear hu
    by_cases hlt : k < L.length
    · obtain ⟨ad, Ab, cb, rfl, f0, f1, f2, hbs⟩ := hr1.out k hlt
      have q0 := pw_cell_below hbr f0; have q1 := pw_cell_below hbr f1; have q2 := pw_cell_below hbr f2
      have hmk := HMS.out _ (atM_mem hlt)
      rw [← atM_get hlt] at q0 q1 q2 hbs
      have cO := fun w' (hb : Below w1.heap.size w1 w') => ev_one (atM L k) Ab cb w' (hbs.below hb) hmk
      clear f0 f1 f2 hbs hmk
      rcases ho : oneE (atM L k).op (atM L k).id (atM L k).b with ⟨i, e⟩
      rw [ho] at cO
      have cO : ∀ w', Below w1.heap.size w1 w' → Calls Try.prog 25 #[(.agg #[.int .i64 ((atM L k).op), .int .i64 ((atM L k).id), .slice (Ab) ((atM L k).b.length) (cb)])] w' (fun en w'' => en = .returned (.tuple #[(.agg #[.int .i64 (e).k, .int .i64 (e).id, .int .i64 (e).a, .int .i64 (e).b]), .int .i64 i]) ∧ Below w'.heap.size w' w'') := cO
      have hlo := lt_of_cell q0
      by_cases h0 : i = 0
      · subst h0
        have HU := Lib.hid (evsFrom_yes HUU.out ho)
        clear ho
        generalize atM L k = m at *
        have hl6 : l.length ≤ 1000000 := by omega
        go_wp2_with (first | (go_at_call 25; (with_reducible refine (cO _ ?_).mono ?_); (focus ((repeat (first | (with_reducible exact Below.refl _ _) | ((with_reducible refine Below.alloc ?_ ?hB _); (case hB => (first | omega | (simp; done) | (simp; omega)))) | ((with_reducible refine Below.setCell ?_ ?hB _); (case hB => (first | omega | (simp; done) | (simp; omega)))) | (with_reducible refine Below.drew ?_) | ((with_reducible refine below_ext_of ?_ ?hB); (case hB => (first | omega | (simp; done) | (simp; omega)))) | ((with_reducible refine Below.trans ?_ (Below.mono (by assumption) ?hB)); (case hB => (first | omega | (simp; done) | (simp; omega)))))); done)); rintro en w3 ⟨rfl, hb3⟩; obtain ⟨hc3, hf3⟩ := bcell hb3; have hz3 := hb3.size; (try simp only [World.size_alloc, World.size_setCell, World.size_drew] at hz3)) | (at_builtin; refine print_append_cells (w0 := w1) (w1.heap.size) rfl _ _ 30 35 _ 4 32 rfl (Try.underlying30) info_ev rfl (by decide) (by decide) _ _ _ [.int .i64 (e).k, .int .i64 (e).id, .int .i64 (e).a, .int .i64 (e).b] rfl ?_ rfl ?_ (OwnE.below hown ?_) ?_ ?_ ?_ ?_; (focus (go_simp; done)); (focus (simp [Value.oneCell']; done)); (focus ((repeat (first | (with_reducible exact Below.refl _ _) | ((with_reducible refine Below.alloc ?_ ?hB _); (case hB => (first | omega | (simp; done) | (simp; omega)))) | ((with_reducible refine Below.setCell ?_ ?hB _); (case hB => (first | omega | (simp; done) | (simp; omega)))) | (with_reducible refine Below.drew ?_) | ((with_reducible refine below_ext_of ?_ ?hB); (case hB => (first | omega | (simp; done) | (simp; omega)))) | ((with_reducible refine Below.trans ?_ (Below.mono (by assumption) ?hB)); (case hB => (first | omega | (simp; done) | (simp; omega)))))); done)); (focus ((repeat (first | (with_reducible exact Below.refl _ _) | ((with_reducible refine Below.alloc ?_ ?hB _); (case hB => (first | omega | (simp; done) | (simp; omega)))) | ((with_reducible refine Below.setCell ?_ ?hB _); (case hB => (first | omega | (simp; done) | (simp; omega)))) | (with_reducible refine Below.drew ?_) | ((with_reducible refine below_ext_of ?_ ?hB); (case hB => (first | omega | (simp; done) | (simp; omega)))) | ((with_reducible refine Below.trans ?_ (Below.mono (by assumption) ?hB)); (case hB => (first | omega | (simp; done) | (simp; omega)))))); done)); (focus ((first | omega | (simp; done) | (simp; omega)); done)); (focus omega); intro v5 w5 hown5 hb5 _ _; have hz5 := hb5.size; (try simp only [World.size_alloc, World.size_setCell, World.size_drew] at hz5)))
        go_roundw
        case rel => exact ⟨k + 1, l ++ [e], by omega, by go_num, HU.out, by simp; omega, hb5, OwnE.snoc hown5⟩
        case measure => simp [intOf]; omega
      · have HU := Lib.hid (evsFrom_no HUU.out ho h0)
        have hi0 : (i == 0) = false := by simp [h0]
        have hi1 : (i != 0) = true := by simp [h0]
        clear ho
        generalize atM L k = m at *
        go_wp2_with (first | (go_at_call 25; (with_reducible refine (cO _ ?_).mono ?_); (focus ((repeat (first | (with_reducible exact Below.refl _ _) | ((with_reducible refine Below.alloc ?_ ?hB _); (case hB => (first | omega | (simp; done) | (simp; omega)))) | ((with_reducible refine Below.setCell ?_ ?hB _); (case hB => (first | omega | (simp; done) | (simp; omega)))) | (with_reducible refine Below.drew ?_) | ((with_reducible refine below_ext_of ?_ ?hB); (case hB => (first | omega | (simp; done) | (simp; omega)))) | ((with_reducible refine Below.trans ?_ (Below.mono (by assumption) ?hB)); (case hB => (first | omega | (simp; done) | (simp; omega)))))); done)); rintro en w3 ⟨rfl, hb3⟩; obtain ⟨hc3, hf3⟩ := bcell hb3; have hz3 := hb3.size; (try simp only [World.size_alloc, World.size_setCell, World.size_drew] at hz3)))
        go_ret2
        exact RdE.err (readE_inl HSP.out (by omega) HU.out) (HB1.out.trans (Below.mono (HBR.out.trans (Below.mono (show Below wr.heap.size wr _ from by (repeat (first | (with_reducible exact Below.refl _ _) | ((with_reducible refine Below.alloc ?_ ?hB _); (case hB => (first | omega | (simp; done) | (simp; omega)))) | ((with_reducible refine Below.setCell ?_ ?hB _); (case hB => (first | omega | (simp; done) | (simp; omega)))) | (with_reducible refine Below.drew ?_) | ((with_reducible refine below_ext_of ?_ ?hB); (case hB => (first | omega | (simp; done) | (simp; omega)))) | ((with_reducible refine Below.trans ?_ (Below.mono (by assumption) ?hB)); (case hB => (first | omega | (simp; done) | (simp; omega))))))) hzr)) hz1))
    · obtain rfl : k = L.length := by omega
      have HO := Lib.hid hown
      clear hown
      rcases her with rfl | rfl | rfl
      · go_wp2
        go_ret2
        exact RdE.mk (readE_ok HSP.out HUU.out) (HO.out.mono hz1) (HB1.out.trans (Below.mono HBR.out hz1))
      · go_wp2
        go_ret2
        exact RdE.err (readE_err HSP.out HUU.out (by decide)) (HB1.out.trans (Below.mono HBR.out hz1))
      · go_wp2
        go_ret2
        exact RdE.err (readE_err HSP.out HUU.out (by decide)) (HB1.out.trans (Below.mono HBR.out hz1))
end Go.Proofs.Ytinnaiofgbjicaa
